/- gate's kinds: the thresholds by kind. -/
import Derived.Test.YtpacnaeckbcpjaaDoorFresh
import Derived.MapKept
namespace Go.Proofs.YtpacnaeckbcpjaaDoor
open Go.RowKit Go.Chalk

def kindsEs : Array MapEntry := #[{ key := .int .i64 1, val := .func (.func 35) #[] #[], born := 0 }, { key := .int .i64 4, val := .func (.func 36) #[] #[], born := 1 }, { key := .int .i64 5, val := .func (.func 34) #[] #[], born := 2 }, { key := .int .i64 6, val := .func (.func 37) #[] #[], born := 3 }]
/-- The map of the thresholds lies in block kb. -/
def KindsAt (w : World) (kb : Nat) : Prop := w.heap[kb]? = some (.map kindsEs 4)

theorem look_int {P : Program} (w : World) (T K E : TypeId) (kb : Nat) (es : Array MapEntry) (clock : Nat) (k : Int) (i : Nat) (v : Value) (hT : P.underlying T = some (.map K E)) (hK : P.underlying K = some (.int .i64)) (h : w.heap[kb]? = some (.map es clock))
    (hf : Instr.findNow (.int .i64) (.int .i64 k) es.toList 0 = some (some (i, v))) : (Instr.lookup T (.map (some kb)) (.int .i64 k) false).run P w = .ok v w := by
  unfold Instr.lookup
  simp only [Sem.run_bind, run_underlying hT, Result.andThen_ok, MapKept.run_getObj_map h, Sem.run_pure, MapKept.run_checkKey (P := P) hK (k := .int .i64 k) rfl, MapKept.run_findKey hK hf]
  rfl
theorem kinds_look (w : World) (kb : Nat) (h : KindsAt w kb) (k : Int) (f : Nat) (hk : (k = 1 ∧ f = 35) ∨ (k = 4 ∧ f = 36) ∨ (k = 5 ∧ f = 34) ∨ (k = 6 ∧ f = 37)) :
    (Instr.lookup 52 (.map (some kb)) (.int .i64 k) false).run Tryd.prog w = .ok (.func (.func f) #[] #[]) w := by
  unfold KindsAt at h
  rcases hk with ⟨rfl, rfl⟩ | ⟨rfl, rfl⟩ | ⟨rfl, rfl⟩ | ⟨rfl, rfl⟩ <;> exact look_int w _ _ _ kb _ _ _ _ _ Tryd.underlying52 Tryd.underlying3 h rfl

theorem set_push {α : Type} (a : Array α) (x y : α) : (a.push x).setIfInBounds a.size y = a.push y := by
  apply Array.ext_getElem?
  intro i
  rw [Array.getElem?_setIfInBounds, Array.getElem?_push, Array.getElem?_push]
  by_cases h : a.size = i
  · subst h; simp
  · rw [if_neg h, if_neg (fun e => h e.symm), if_neg (fun e => h e.symm)]
theorem put_int {P : Program} (w : World) (T K E : TypeId) (es : Array MapEntry) (clock : Nat) (k : Int) (v : Value) (hT : P.underlying T = some (.map K E)) (hK : P.underlying K = some (.int .i64)) (hf : Instr.findNow (.int .i64) (.int .i64 k) es.toList 0 = some none) :
    (Instr.mapUpdate T (.map (some w.heap.size)) (.int .i64 k) v).run P (w.alloc (.map es clock)) = .ok () (w.alloc (.map (es.push { key := .int .i64 k, val := v, born := clock }) (clock + 1))) := by
  have h : (w.alloc (.map es clock)).heap[w.heap.size]? = some (.map es clock) := (MapKept.heap_alloc w _).1
  unfold Instr.mapUpdate
  simp only [Sem.run_bind, run_underlying hT, Result.andThen_ok, MapKept.run_getObj_map h, MapKept.run_checkKey (P := P) hK (k := .int .i64 k) rfl, MapKept.run_findKey hK hf, MapKept.run_setObj_map _ h]
  have e : (w.alloc (.map es clock)).heap = w.heap.push (.map es clock) := rfl
  rw [e, set_push]
  rfl

set_option maxRecDepth 100000 in
theorem kinds_any (w : World) : Calls Tryd.prog 18 #[] w fun e w' => e = .returned (.map (some w.heap.size)) ∧ w' = w.alloc (.map kindsEs 4) := by
  have hmm := @run_makeMap Tryd.prog
  have h1 := put_int (P := Tryd.prog) w 52 _ _ #[] 0 1 (.func (.func 35) #[] #[]) Tryd.underlying52 Tryd.underlying3 rfl
  have h2 := put_int (P := Tryd.prog) w 52 _ _ #[{ key := .int .i64 1, val := .func (.func 35) #[] #[], born := 0 }] 1 4 (.func (.func 36) #[] #[]) Tryd.underlying52 Tryd.underlying3 rfl
  have h3 := put_int (P := Tryd.prog) w 52 _ _ #[{ key := .int .i64 1, val := .func (.func 35) #[] #[], born := 0 }, { key := .int .i64 4, val := .func (.func 36) #[] #[], born := 1 }] 2 5 (.func (.func 34) #[] #[]) Tryd.underlying52 Tryd.underlying3 rfl
  have h4 := put_int (P := Tryd.prog) w 52 _ _ #[{ key := .int .i64 1, val := .func (.func 35) #[] #[], born := 0 }, { key := .int .i64 4, val := .func (.func 36) #[] #[], born := 1 }, { key := .int .i64 5, val := .func (.func 34) #[] #[], born := 2 }] 3 6 (.func (.func 37) #[] #[]) Tryd.underlying52 Tryd.underlying3 rfl
  simp only [List.push_toArray, List.nil_append, List.cons_append, Nat.zero_add, Nat.reduceAdd] at h1 h2 h3 h4
  go_enter Tryd.func18, Tryd.ntmps18
  go_wp2_with fail
  go_ret
  exact ⟨rfl, rfl⟩

/-- A threshold function. -/
def ThrOk (w : World) (f : Nat) (x : Value) (y : Int) : Prop := Calls Tryd.prog f #[x] w fun e w' => e = .returned (.int .i64 y) ∧ Below w.heap.size w w'

set_option maxRecDepth 100000 in
theorem thr_const (w : World) (kind v k : Int) (a : Option Addr) (n cap : Nat) (hv : 0 ≤ v ∧ v ≤ 1) : Calls Tryd.prog 35 #[.agg #[.int .i64 kind, .int .i64 v, .int .i64 k, .slice a n cap]] w fun e w' => e = .returned (.int .i64 (1 - v)) ∧ Below w.heap.size w w' := by
  go_enter Tryd.func35, Tryd.ntmps35
  go_wp2_with fail
  go_ret
  exact ⟨rfl, (Below.refl _ _).alloc (Nat.le_refl _) _⟩
set_option maxRecDepth 100000 in
theorem thr_and (w : World) (kind v k : Int) (a : Option Addr) (n cap : Nat) (hn : n ≤ 1000000000) : Calls Tryd.prog 36 #[.agg #[.int .i64 kind, .int .i64 v, .int .i64 k, .slice a n cap]] w fun e w' => e = .returned (.int .i64 n) ∧ Below w.heap.size w w' := by
  go_enter Tryd.func36, Tryd.ntmps36
  go_wp2_with fail
  go_ret
  exact ⟨rfl, (Below.refl _ _).alloc (Nat.le_refl _) _⟩
set_option maxRecDepth 100000 in
theorem thr_or (w : World) (kind v k : Int) (a : Option Addr) (n cap : Nat) : Calls Tryd.prog 34 #[.agg #[.int .i64 kind, .int .i64 v, .int .i64 k, .slice a n cap]] w fun e w' => e = .returned (.int .i64 1) ∧ Below w.heap.size w w' := by
  go_enter Tryd.func34, Tryd.ntmps34
  go_wp2_with fail
  go_ret
  exact ⟨rfl, (Below.refl _ _).alloc (Nat.le_refl _) _⟩
set_option maxRecDepth 100000 in
theorem thr_least (w : World) (kind v k : Int) (a : Option Addr) (n cap : Nat) : Calls Tryd.prog 37 #[.agg #[.int .i64 kind, .int .i64 v, .int .i64 k, .slice a n cap]] w fun e w' => e = .returned (.int .i64 k) ∧ Below w.heap.size w w' := by
  go_enter Tryd.func37, Tryd.ntmps37
  go_wp2_with fail
  go_ret
  exact ⟨rfl, (Below.refl _ _).alloc (Nat.le_refl _) _⟩

end Go.Proofs.YtpacnaeckbcpjaaDoor
