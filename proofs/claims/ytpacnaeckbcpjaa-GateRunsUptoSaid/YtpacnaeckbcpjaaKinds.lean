/- gate's kinds: the thresholds by kind. -/
import Derived.Test.YtpacnaeckbcpjaaFresh
import Derived.MapKept
namespace Go.Proofs.Ytpacnaeckbcpjaa
open Go.RowKit Go.Chalk

def kindsEs : Array MapEntry := #[{ key := .int .i64 1, val := .func (.func 71) #[] #[], born := 0 }, { key := .int .i64 4, val := .func (.func 72) #[] #[], born := 1 }, { key := .int .i64 5, val := .func (.func 70) #[] #[], born := 2 }, { key := .int .i64 6, val := .func (.func 73) #[] #[], born := 3 }]
/-- The map of the thresholds lies in block kb. -/
def KindsAt (w : World) (kb : Nat) : Prop := w.heap[kb]? = some (.map kindsEs 4)

theorem look_int {P : Program} (w : World) (T K E : TypeId) (kb : Nat) (es : Array MapEntry) (clock : Nat) (k : Int) (i : Nat) (v : Value) (hT : P.underlying T = some (.map K E)) (hK : P.underlying K = some (.int .i64)) (h : w.heap[kb]? = some (.map es clock))
    (hf : Instr.findNow (.int .i64) (.int .i64 k) es.toList 0 = some (some (i, v))) : (Instr.lookup T (.map (some kb)) (.int .i64 k) false).run P w = .ok v w := by
  unfold Instr.lookup
  simp only [Sem.run_bind, run_underlying hT, Result.andThen_ok, MapKept.run_getObj_map h, Sem.run_pure, MapKept.run_checkKey (P := P) hK (k := .int .i64 k) rfl, MapKept.run_findKey hK hf]
  rfl
theorem kinds_look (w : World) (kb : Nat) (h : KindsAt w kb) (k : Int) (f : Nat) (hk : (k = 1 ∧ f = 71) ∨ (k = 4 ∧ f = 72) ∨ (k = 5 ∧ f = 70) ∨ (k = 6 ∧ f = 73)) :
    (Instr.lookup 82 (.map (some kb)) (.int .i64 k) false).run Try.prog w = .ok (.func (.func f) #[] #[]) w := by
  unfold KindsAt at h
  rcases hk with ⟨rfl, rfl⟩ | ⟨rfl, rfl⟩ | ⟨rfl, rfl⟩ | ⟨rfl, rfl⟩ <;> exact look_int w _ _ _ kb _ _ _ _ _ Try.underlying82 Try.underlying3 h rfl

theorem set_push {α : Type} (a : Array α) (x y : α) : (a.push x).setIfInBounds a.size y = a.push y := by
  apply Array.ext_getElem?
  intro i
  rw [Array.getElem?_setIfInBounds, Array.getElem?_push, Array.getElem?_push]
  by_cases h : a.size = i
  · subst h; simp
  · rw [if_neg h, if_neg (fun e => h e.symm), if_neg (fun e => h e.symm)]
theorem put_int {P : Program} (w : World) (T K E : TypeId) (es : Array MapEntry) (clock : Nat) (k : Int) (v : Value) (hT : P.underlying T = some (.map K E)) (hK : P.underlying K = some (.int .i64)) (hf : Instr.findNow (.int .i64) (.int .i64 k) es.toList 0 = some none) :
    (Instr.mapUpdate T (.map (some w.heap.size)) (.int .i64 k) v).run P (w.alloc (.map es clock)) = .ok () (w.alloc (.map (es.push { key := .int .i64 k, val := v, born := clock }) (clock + 1))) := by
  have h : (w.alloc (.map es clock)).heap[w.heap.size]? = some (.map es clock) := (MapKept.heap_alloc w _).1
  unfold Instr.mapUpdate
  simp only [Sem.run_bind, run_underlying hT, Result.andThen_ok, MapKept.run_getObj_map h, MapKept.run_checkKey (P := P) hK (k := .int .i64 k) rfl, MapKept.run_findKey hK hf, MapKept.run_setObj_map _ h]
  have e : (w.alloc (.map es clock)).heap = w.heap.push (.map es clock) := rfl
  rw [e, set_push]
  rfl

set_option maxRecDepth 100000 in
theorem kinds_any (w : World) : Calls Try.prog 51 #[] w fun e w' => e = .returned (.map (some w.heap.size)) ∧ w' = w.alloc (.map kindsEs 4) := by
  have hmm := @run_makeMap Try.prog
  have h1 := put_int (P := Try.prog) w 82 _ _ #[] 0 1 (.func (.func 71) #[] #[]) Try.underlying82 Try.underlying3 rfl
  have h2 := put_int (P := Try.prog) w 82 _ _ #[{ key := .int .i64 1, val := .func (.func 71) #[] #[], born := 0 }] 1 4 (.func (.func 72) #[] #[]) Try.underlying82 Try.underlying3 rfl
  have h3 := put_int (P := Try.prog) w 82 _ _ #[{ key := .int .i64 1, val := .func (.func 71) #[] #[], born := 0 }, { key := .int .i64 4, val := .func (.func 72) #[] #[], born := 1 }] 2 5 (.func (.func 70) #[] #[]) Try.underlying82 Try.underlying3 rfl
  have h4 := put_int (P := Try.prog) w 82 _ _ #[{ key := .int .i64 1, val := .func (.func 71) #[] #[], born := 0 }, { key := .int .i64 4, val := .func (.func 72) #[] #[], born := 1 }, { key := .int .i64 5, val := .func (.func 70) #[] #[], born := 2 }] 3 6 (.func (.func 73) #[] #[]) Try.underlying82 Try.underlying3 rfl
  simp only [List.push_toArray, List.nil_append, List.cons_append, Nat.zero_add, Nat.reduceAdd] at h1 h2 h3 h4
  go_enter Try.func51, Try.ntmps51
  go_wp2_with fail
  go_ret
  exact ⟨rfl, rfl⟩

/-- A threshold function. -/
def ThrOk (w : World) (f : Nat) (x : Value) (y : Int) : Prop := Calls Try.prog f #[x] w fun e w' => e = .returned (.int .i64 y) ∧ Below w.heap.size w w'

set_option maxRecDepth 100000 in
theorem thr_const (w : World) (kind v k : Int) (a : Option Addr) (n cap : Nat) (hv : 0 ≤ v ∧ v ≤ 1) : Calls Try.prog 71 #[.agg #[.int .i64 kind, .int .i64 v, .int .i64 k, .slice a n cap]] w fun e w' => e = .returned (.int .i64 (1 - v)) ∧ Below w.heap.size w w' := by
  go_enter Try.func71, Try.ntmps71
  go_wp2_with fail
  go_ret
  exact ⟨rfl, (Below.refl _ _).alloc (Nat.le_refl _) _⟩
set_option maxRecDepth 100000 in
theorem thr_and (w : World) (kind v k : Int) (a : Option Addr) (n cap : Nat) (hn : n ≤ 1000000000) : Calls Try.prog 72 #[.agg #[.int .i64 kind, .int .i64 v, .int .i64 k, .slice a n cap]] w fun e w' => e = .returned (.int .i64 n) ∧ Below w.heap.size w w' := by
  go_enter Try.func72, Try.ntmps72
  go_wp2_with fail
  go_ret
  exact ⟨rfl, (Below.refl _ _).alloc (Nat.le_refl _) _⟩
set_option maxRecDepth 100000 in
theorem thr_or (w : World) (kind v k : Int) (a : Option Addr) (n cap : Nat) : Calls Try.prog 70 #[.agg #[.int .i64 kind, .int .i64 v, .int .i64 k, .slice a n cap]] w fun e w' => e = .returned (.int .i64 1) ∧ Below w.heap.size w w' := by
  go_enter Try.func70, Try.ntmps70
  go_wp2_with fail
  go_ret
  exact ⟨rfl, (Below.refl _ _).alloc (Nat.le_refl _) _⟩
set_option maxRecDepth 100000 in
theorem thr_least (w : World) (kind v k : Int) (a : Option Addr) (n cap : Nat) : Calls Try.prog 73 #[.agg #[.int .i64 kind, .int .i64 v, .int .i64 k, .slice a n cap]] w fun e w' => e = .returned (.int .i64 k) ∧ Below w.heap.size w w' := by
  go_enter Try.func73, Try.ntmps73
  go_wp2_with fail
  go_ret
  exact ⟨rfl, (Below.refl _ _).alloc (Nat.le_refl _) _⟩

end Go.Proofs.Ytpacnaeckbcpjaa
