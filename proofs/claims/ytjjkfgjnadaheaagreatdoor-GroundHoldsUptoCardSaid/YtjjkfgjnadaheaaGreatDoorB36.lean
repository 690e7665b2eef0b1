/- Joined texts: GPl, GRows, GEachP. -/
import Derived.Test.YtjjkfgjnadaheaaGreatDoorB15
import Derived.Test.YtjjkfgjnadaheaaGreatDoorB22
import Derived.Test.YtjjkfgjnadaheaaGreatDoorB35
import Derived.Deep.RegionHeld3
import Derived.Stop.RegionWithIn
import Derived.Test.YtjjkfgjnadaheaaGreatDoorB33

/- ground.place: the last element of an environment that has a name. -/
namespace Go.Chalk
open Go.RowKit
theorem set_heap_other {W : World} {a : Addr} {v : Value} {k : Nat} (h : k ≠ a.block) : (W.setCell a v).heap[k]? = W.heap[k]? := by
  by_cases hk : k < W.heap.size
  · exact ((Mod.refl (fun k => k = a.block) W).setCell (p := a) (fun _ => rfl) v).block k hk h
  · rw [Array.getElem?_eq_none (by simp; omega), Array.getElem?_eq_none (by omega)]
def plOf (env : List Ev) (name : Bs) : Int := ((env.reverse.find? (fun x => x.name == name)).map Ev.at_).getD 0
def rvE (env : List Ev) (i : Nat) : Ev := env.reverse[i]?.getD ⟨[], 0, 0⟩
theorem rvE_eq {env : List Ev} {q : Nat} (h : q < env.length) : rvE env (env.length - (q + 1)) = env[q] := by
  unfold rvE
  rw [List.getElem?_reverse (by omega), show env.length - 1 - (env.length - (q + 1)) = q by omega, List.getElem?_eq_getElem h]; rfl
theorem plOf_none {env : List Ev} {name : Bs} (h : ∀ i, i < env.length -> (rvE env i).name ≠ name) : plOf env name = 0 := by
  have : env.reverse.find? (fun x => x.name == name) = none := by
    rw [List.find?_eq_none]
    intro x hx
    obtain ⟨i, hi, rfl⟩ := List.mem_iff_getElem.1 hx
    have := h i (by simpa using hi)
    unfold rvE at this
    rw [List.getElem?_eq_getElem hi] at this
    simpa using this
  unfold plOf; rw [this]; rfl
theorem plOf_some {env : List Ev} {name : Bs} {i : Nat} (hi : i < env.length) (h : ∀ j, j < i -> (rvE env j).name ≠ name) (he : (rvE env i).name = name) : plOf env name = (rvE env i).at_ := by
  have hi' : i < env.reverse.length := by simpa using hi
  have e : rvE env i = env.reverse[i] := by unfold rvE; rw [List.getElem?_eq_getElem hi']; rfl
  have : env.reverse.find? (fun x => x.name == name) = some env.reverse[i] := by
    rw [List.find?_eq_some_iff_getElem]
    refine ⟨by rw [<- e]; simpa using he, i, hi', rfl, fun j hj => ?_⟩
    have h1 := h j hj
    unfold rvE at h1
    rw [List.getElem?_eq_getElem (by omega)] at h1
    simpa using h1
  unfold plOf; rw [this, e]; rfl
theorem plOf_eq {env : List Ev} (h : mayA (evBinds env) = true) (name : Bs) : plOf env name = (evOf env name).at_ := by
  have key : ∀ i (hi : i < env.length), findB (evBinds env) env[i].name = some i := fun i hi => by
    unfold mayA at h
    have h1 := List.all_eq_true.1 h i (List.mem_range.2 (by simpa [evBinds] using hi))
    have h2 : (evBinds env)[i]? = some ⟨env[i].name, env[i].sort⟩ := by simp [evBinds, hi]
    rw [h2] at h1
    simp only [Bool.and_eq_true, beq_iff_eq] at h1
    exact h1.2
  have same : ∀ e ∈ env, ∀ e' ∈ env, e.name = e'.name -> e = e' := fun e he e' he' hn => by
    obtain ⟨i, hi, rfl⟩ := List.mem_iff_getElem.1 he
    obtain ⟨j, hj, rfl⟩ := List.mem_iff_getElem.1 he'
    have h1 := key i hi
    rw [hn, key j hj] at h1
    obtain rfl := Option.some.inj h1
    rfl
  unfold plOf evOf
  cases h1 : env.find? (fun x => x.name == name) with
  | none =>
    have h2 : env.reverse.find? (fun x => x.name == name) = none := by
      rw [List.find?_eq_none] at h1 ⊢
      exact fun x hx => h1 x (List.mem_reverse.1 hx)
    rw [h2]; rfl
  | some e =>
    have m1 := List.mem_of_find?_eq_some h1
    have n1 := List.find?_some h1
    cases h2 : env.reverse.find? (fun x => x.name == name) with
    | none =>
      rw [List.find?_eq_none] at h2
      exact absurd n1 (h2 e (List.mem_reverse.2 m1))
    | some e' =>
      have m2 := List.mem_reverse.1 (List.mem_of_find?_eq_some h2)
      have n2 := List.find?_some h2
      have : e' = e := same e' m2 e m1 (by simp at n1 n2; rw [n1, n2])
      rw [this]; rfl
end Go.Chalk
namespace Go.Proofs.YtjjkfgjnadaheaaGreatDoor
open Go.RowKit Go.Chalk
attribute [local go_sem] Oper.semAt_some
theorem int_leaves {fn : Func} {R : Ending -> World -> Prop} {w W : World} {D0 : Nat} {c : Int} {T : TypeId} {tm : Array Value} (hb : Below w.heap.size w W) (hx : W.heap[w.heap.size + 1]? = some (.cells #[.int .i64 c] T (0, 0))) (hd : W.heap[D0]? = some (.deferred (some []))) (hD : w.heap.size + 1 < D0)
    (hres : ∀ W', W'.cell? ⟨w.heap.size + 1, 0, none⟩ = some (.int .i64 c) -> (results fn tm).run Tryz.prog W' = .ok (.int .i64 c) W') (hR : ∀ W', Below w.heap.size w W' -> R (.returned (.int .i64 c)) W') :
    LeavesInM Fence.wide 0 Tryz.prog fn tm R ([D0].map Chalk.mark) .returning W := by
  refine leaves_marks_at (v := .int .i64 c) [D0] W (by simp) (fun d h => by simp at h; subst h; exact hd) (fun W' hm' => ?_)
  have hx' : W'.heap[w.heap.size + 1]? = some (.cells #[.int .i64 c] T (0, 0)) := heap_kept hx hm' (fun hk => by simp at hk; omega)
  exact ⟨hres W' (cell_of_heap hx' rfl), hR _ (hb.trans (hm'.below hb.size (fun k hk => by simp at hk; omega)))⟩
def evV (e : Ev) : Value := .agg #[.string ⟨e.name.toArray⟩, .int .i64 e.sort, .int .i64 e.at_]
set_option maxRecDepth 100000 in
set_option maxHeartbeats 1000000 in
theorem back1_iter (env : List Ev) (x : SlA) (w : World) (b : Nat) (F : Nat -> Prop) (hx : SlIn w F (env.map Ev.toD) x) (h1 : w.heap[b]? = some (.cells #[.slice x.a env.length x.cap] 29 (0, 0))) (hmax : env.length <= 2000000) :
    Iter Tryz.prog 208 #[.pointer (some ⟨b, 0, none⟩)] env.length (fun i => #[.int .i64 ((env.length : Int) - 1 - i), evV (rvE env i)]) (fun k => F k ∨ k = b) w := by
  intro l J Jx T W hAg hD hT hJ hJx hY h0
  have q1 : W.cell? ⟨b, 0, none⟩ = some (.slice x.a env.length x.cap) := cell_of_heap ((hAg b (.inr rfl)).trans h1) rfl
  obtain ⟨g1, _, _, g4, _⟩ := (hx.agree (hAg.mono (fun k hk => .inl hk))).flat Ev.flatT
  have HY := Lib.hid hY
  have HJ := Lib.hid hJ
  have HD := Lib.hid hD
  have HT := Lib.hid hT
  have HX := Lib.hid (And.intro g1 g4)
  have HQ := Lib.hid q1
  have HB0 := Lib.hid (Between.start (W := W) h0)
  have HJX := Lib.hid hJx
  clear hY hJ hJx hD hT hAg h0 hx h1 g1 g4
  show Calls Tryz.prog 208 #[.func (.yield l) #[] #[], .pointer (some ⟨b, 0, none⟩)] W _
  refine (callsIn_wide (n := 0)).1 (callsIn_of_wp Tryz.func208 rfl trivial ?_ rfl)
  simp only [Tryz.ntmps208, List.size_toArray, List.length_cons, List.length_nil, Nat.reduceAdd, Nat.reduceSub, Array.replicate_succ, Array.replicate_zero, List.push_toArray, List.append_toArray, List.nil_append, List.cons_append]
  gi_wp2_with fail
  gi_loopg [3] env.length (fun k s3 wr => s3 = .int .i64 ((k : Int) - 1) /\ k <= env.length /\ ∃ T1, Hid (Between J T T1 W wr (env.length - k)))
  case atStart => exact ⟨by go_num, Nat.le_refl _, T, Lib.hid (by rw [Nat.sub_self]; exact HB0.out)⟩
  case round =>
    obtain ⟨rfl, hk, T1, HB⟩ := hrel
    clear HB0 q1
    have s1 : wr.cell? ⟨b, 0, none⟩ = some (.slice x.a env.length x.cap) := (World.cell?_of_block (w := W) (HB.out.agree HD.out b (.inr rfl))).trans HQ.out
    cases gk with
    | zero =>
      gi_wp2_with fail
      go_end0
      exact Between.done (by have := HB.out; rwa [Nat.sub_zero] at this)
    | succ q =>
      have hqn : q < env.length := by omega
      have hqi : (((q + 1 : Nat) : Int) - 1) = (q : Int) := by omega
      rw [hqi]
      obtain ⟨hxa, hFb⟩ := HX.out.1 (by omega)
      obtain ⟨e0, e1, e2⟩ := HX.out.2.three q hqn rfl
      have hxb := HB.out.agree HD.out x.b (.inl hFb)
      have d0 := (World.cell?_of_block (w := W) (a := ⟨x.b, x.o + q * 3, none⟩) hxb).trans e0
      have d1 := (World.cell?_of_block (w := W) (a := ⟨x.b, x.o + q * 3 + 1, none⟩) hxb).trans e1
      have d2 := (World.cell?_of_block (w := W) (a := ⟨x.b, x.o + q * 3 + 2, none⟩) hxb).trans e2
      obtain ⟨fn, tmps, assign, body, hy, hRd⟩ := HY.out (env.length - (q + 1)) T1 wr (by omega) HB.out.inv (HB.out.lt HT.out)
      rw [rvE_eq hqn, show ((env.length : Int) - 1 - ((env.length - (q + 1) : Nat) : Int)) = (q : Int) by omega] at hy
      have HRR := Lib.hid hRd
      have hqlt : (q : Int) < (env.length : Int) := by omega
      rw [hxa] at s1
      clear hRd hFb hxb e0 e1 e2 hqi hxa
      unfold evV at hy
      generalize env[q] = ev at hy d0 d1 d2
      gi_wp2_with fail
      refine ⟨rfl, HRR.out.mono ?_⟩
      rintro e W2 ⟨T2, he, hm, ⟨rfl, hj2⟩ | ⟨rfl, hj2⟩⟩
      rotate_left
      · have HS := Lib.hid (HB.out.stop (m := env.length) (by omega) he hm hj2 (v := .tuple #[]))
        clear he hm hj2 hy
        gi_wp2_with fail
        go_end0
        exact HS.out
      · have HB2 := Lib.hid (HB.out.round he hm hj2)
        clear he hm hj2 hy HRR
        gi_wp2_with fail
        gi_roundg q
        case measure => omega
        case rel => exact ⟨by go_num, by omega, T2, Lib.hid (by have := HB2.out; rwa [show env.length - (q + 1) + 1 = env.length - q by omega] at this)⟩
set_option maxRecDepth 100000 in
theorem back_any (x : SlA) (n : Nat) (w : World) :
    Calls Tryz.prog 153 #[.slice x.a n x.cap] w fun e w' => e = .returned (.func (.func 208) #[] #[.pointer (some ⟨w.heap.size, 0, none⟩)]) /\ w.alloc (.cells #[.slice x.a n x.cap] 29) = w' := by
  have hmf : ∀ (fn : Fn) (first cap : Array Value) (w : World), (Instr.makeFunc fn first cap).run Tryz.prog w = .ok (.func fn first cap) w := fun _ _ _ _ => rfl
  go_enter Tryz.func153, Tryz.ntmps153
  go_wp2_with fail
  go_ret
  exact ⟨rfl, rfl⟩
set_option maxRecDepth 100000 in
set_option maxHeartbeats 1000000 in
theorem place_any (env : List Ev) (z : SlA) (t : Trm) (w : World) (hz : SlIn w (· < w.heap.size) (env.map Ev.toD) z) (hle : env.length <= 2000000) :
    Calls Tryz.prog 82 #[.slice z.a env.length z.cap, .agg #[.int .i64 t.kind, .string ⟨t.name.toArray⟩, .int .i64 t.n]] w fun e w' => e = .returned (.int .i64 (plOf env t.name)) /\ Below w.heap.size w w' := by
  have HZ := Lib.hid hz
  have HLE := Lib.hid hle
  have HE := Lib.hid (fun W => back_any z env.length W)
  clear hz hle
  obtain ⟨k0, name, n0⟩ := t
  simp only
  refine (callsIn_wide (n := 0)).1 (callsIn_of_wp_marks Tryz.func82 rfl trivial ?_)
  simp only [Tryz.ntmps82, List.size_toArray, List.length_cons, List.length_nil, Nat.reduceAdd, Nat.reduceSub, Array.replicate_succ, Array.replicate_zero, List.push_toArray, List.append_toArray, List.nil_append, List.cons_append]
  gi_wp2_with fail
  refine ⟨trivial, rfl, (callsIn_wide.2 (HE.out _)).mono ?_⟩
  rintro e w' ⟨rfl, rfl⟩
  gi_wp2_with fail
  generalize hW3 : (((w.alloc _).alloc _).alloc _) = W3
  have hsz : W3.heap.size = w.heap.size + 3 := by rw [<- hW3]; simp
  have hb3 : Below w.heap.size w W3 := by rw [<- hW3]; exact (((Below.refl _ _).alloc (Nat.le_refl _) _).alloc (by simp) _).alloc (by simp; omega) _
  have g0 : W3.heap[w.heap.size]? = some (.cells #[.int .i64 k0, .string ⟨name.toArray⟩, .int .i64 n0] 147 (0, 0)) := by rw [<- hW3]; simp only [heap_get, World.size_alloc]; repeat (first | rw [if_pos trivial] | rw [if_pos (by omega)] | rw [if_neg (by omega)])
  have g1 : W3.heap[w.heap.size + 1]? = some (.cells #[.int .i64 0] 3 (0, 0)) := by rw [<- hW3]; simp only [heap_get, World.size_alloc]; repeat (first | rw [if_pos trivial] | rw [if_pos (by omega)] | rw [if_neg (by omega)])
  have g2 : W3.heap[w.heap.size + 1 + 1]? = some (.cells #[.slice z.a env.length z.cap] 29 (0, 0)) := by rw [<- hW3]; simp only [heap_get, World.size_alloc]; repeat (first | rw [if_pos trivial] | rw [if_pos (by omega)] | rw [if_neg (by omega)])
  have hit := back1_iter env z W3 (w.heap.size + 1 + 1) (· < w.heap.size) (HZ.out.agree (agree_of_below hb3)) g2 HLE.out
  have G := Lib.hid (And.intro hsz (And.intro hb3 (And.intro g0 g1)))
  have HIT := Lib.hid hit
  clear hW3 hsz hb3 g0 g1 g2 hit HE HZ
  refine wp_range_fx (gf := 208) (lb := #[.pointer (some ⟨w.heap.size + 1 + 1, 0, none⟩)]) rfl (enters_of Tryz.func208 (by kernel_rfl) rfl)
    HIT.out (fun _ _ => rfl) (fun k => k = w.heap.size + 1) (fun k hk => by have := G.out.1; omega) (fun k hk => by have := G.out.1; omega)
    (fun i W => W.heap[w.heap.size + 1]? = some (.cells #[.int .i64 0] 3 (0, 0)) /\ ∀ j, j < i -> (rvE env j).name ≠ name)
    (fun c i W => c = .ret /\ ∃ j, i = j + 1 /\ j < env.length /\ (rvE env j).name = name /\ (∀ q, q < j -> (rvE env q).name ≠ name) /\ W.heap[w.heap.size + 1]? = some (.cells #[.int .i64 (rvE env j).at_] 3 (0, 0)))
    (fun i W W' S h hm hS => ⟨heap_kept h.1 hm (fun h => (hS _ h).2 rfl), h.2⟩)
    (fun c i W W' S h hm hS => by obtain ⟨h1, j, h2, h3, h4, h5, h6⟩ := h; exact ⟨h1, j, h2, h3, h4, h5, heap_kept h6 hm (fun h => (hS _ h).2 rfl)⟩)
    ⟨G.out.2.2.2, fun j hj => by omega⟩
    (fun l i a' W => ∃ b, a' = { tmps := #[.slice z.a env.length z.cap, .agg #[.int .i64 k0, .string ⟨name.toArray⟩, .int .i64 n0], undef, .pointer (some ⟨w.heap.size, 0, none⟩), .pointer (some ⟨w.heap.size + 1, 0, none⟩), undef, .pointer (some ⟨b, 0, none⟩), .slice z.a env.length z.cap, .func (.func 208) #[] #[.pointer (some ⟨w.heap.size + 1 + 1, 0, none⟩)], .int .i64 ((env.length : Int) - 1 - i), evV (rvE env i), undef, undef, undef, undef, undef, undef, undef], defers := [] } /\ W.heap[b]? = some (.cells #[.string ⟨(rvE env i).name.toArray⟩, .int .i64 (rvE env i).sort, .int .i64 (rvE env i).at_] 76 (0, 0)) /\ b ≠ l)
    (fun l i a' W W' h hm => by obtain ⟨b, h1, h2, h3⟩ := h; exact ⟨b, h1, heap_kept h2 hm h3, h3⟩) ?assign ?body ?done ?stop
  case assign =>
    intro l i W K hi hm hI hl hK
    have HK := Lib.hid (hK { tmps := #[.slice z.a env.length z.cap, .agg #[.int .i64 k0, .string ⟨name.toArray⟩, .int .i64 n0], undef, .pointer (some ⟨w.heap.size, 0, none⟩), .pointer (some ⟨w.heap.size + 1, 0, none⟩), undef, .pointer (some ⟨W.heap.size, 0, none⟩), .slice z.a env.length z.cap, .func (.func 208) #[] #[.pointer (some ⟨w.heap.size + 1 + 1, 0, none⟩)], .int .i64 ((env.length : Int) - 1 - i), evV (rvE env i), undef, undef, undef, undef, undef, undef, undef], defers := [] } (W.alloc (.cells #[.string ⟨(rvE env i).name.toArray⟩, .int .i64 (rvE env i).sort, .int .i64 (rvE env i).at_] 76)) ((Chalk.Mod.refl _ W).alloc _) ⟨(Below.heap_alloc _ _ _ (Array.getElem?_eq_some_iff.1 hI.1).1).trans hI.1, hI.2⟩ ⟨W.heap.size, rfl, by rw [heap_get, if_pos rfl], by omega⟩)
    clear hK hm hI
    unfold evV at HK ⊢
    generalize rvE env i = ev at HK ⊢
    gi_wp2_with fail
    exact HK.out
  case body =>
    intro l i a' W hi hm hI hax hT hwl hnl
    obtain ⟨b, rfl, hb, hbl⟩ := hax
    have r0 : W.cell? ⟨w.heap.size + 1, 0, none⟩ = some (.int .i64 0) := cell_of_heap hI.1 rfl
    have r1 : W.frozen? ⟨w.heap.size + 1, 0, none⟩ = false := frozen_of_heap hI.1
    have r2 : W.cell? ⟨w.heap.size, 1, none⟩ = some (.string ⟨name.toArray⟩) := cell_of_heap (heap_kept G.out.2.2.1 hm (by omega)) rfl
    have b0 : W.cell? ⟨b, 0, none⟩ = some (.string ⟨(rvE env i).name.toArray⟩) := cell_of_heap hb rfl
    have b2 : W.cell? ⟨b, 2, none⟩ = some (.int .i64 (rvE env i).at_) := cell_of_heap hb rfl
    have HI := Lib.hid hI
    clear hI hb hm
    by_cases hn : (rvE env i).name = name
    · have HN := Lib.hid hn
      rw [hn] at b0
      clear hn
      unfold evV
      generalize hev : rvE env i = ev at *
      have HEV := Lib.hid hev
      clear hev
      gi_wp2_with fail
      refine ⟨(Chalk.Mod.refl (fun k => k = w.heap.size + 1) W).setCell (p := ⟨w.heap.size + 1, 0, none⟩) (fun _ => rfl) _, rfl, i, rfl, hi, by rw [HEV.out]; exact HN.out, HI.out.2, ?_⟩
      rw [HEV.out, box_store _ HI.out.1]; rfl
    · have HN := Lib.hid hn
      have hne : ((rvE env i).name == name) = false := by simpa using hn
      clear hn
      generalize (rvE env i).name = en at hne b0
      gi_wp2_with fail
      exact ⟨Chalk.Mod.refl _ _, HI.out.1, fun j hj => by
        by_cases h : j = i
        · subst h; exact HN.out
        · exact HI.out.2 j (by omega)⟩
  case done =>
    intro D0 W hD0 hDlt hnD hm hI hdd
    have r0 : W.cell? ⟨w.heap.size + 1, 0, none⟩ = some (.int .i64 0) := cell_of_heap hI.1 rfl
    have r1 : W.frozen? ⟨w.heap.size + 1, 0, none⟩ = false := frozen_of_heap hI.1
    have HI := Lib.hid hI
    have HH := Lib.hid (And.intro hm hdd)
    have HBW : Hid (Below w.heap.size w W) := Lib.hid (G.out.2.1.trans (hm.below (B := w.heap.size) (by have := G.out.1; omega) (fun k hk => by omega)))
    clear hI hm hdd
    gi_wp2_with fail
    have z3 := G.out.1
    refine int_leaves (w := w) (c := 0) (T := 3) (D0 := D0) (HBW.out.trans (((Chalk.Mod.refl (fun k => k = w.heap.size + 1) W).setCell (p := ⟨w.heap.size + 1, 0, none⟩) (fun _ => rfl) _).below HBW.out.size (fun k hk => by omega))) (by rw [box_store _ HI.out.1]; rfl) ((set_heap_other (by show D0 ≠ w.heap.size + 1; omega)).trans HH.out.2) (by omega) (fun W' hc => by simp [results, Tryz.results82, go_sem, hc]) (fun W' hb => ⟨by rw [plOf_none HI.out.2], hb⟩)
  case stop =>
    intro D0 c i W hD0 hDlt hnD hi0 him hm hI hdd
    obtain ⟨rfl, j, rfl, hj, h1, h2, h3⟩ := hI
    have r0 : W.cell? ⟨w.heap.size + 1, 0, none⟩ = some (.int .i64 (rvE env j).at_) := cell_of_heap h3 rfl
    have HH := Lib.hid (And.intro h3 (And.intro hdd (plOf_some hj h2 h1)))
    have HBW : Hid (Below w.heap.size w W) := Lib.hid (G.out.2.1.trans (hm.below (B := w.heap.size) (by have := G.out.1; omega) (fun k hk => by omega)))
    clear h1 h2 h3 hm hdd
    gi_wp2_with fail
    have z3 := G.out.1
    exact int_leaves (w := w) (c := (rvE env j).at_) (T := 3) (D0 := D0) HBW.out HH.out.1 HH.out.2.1 (by omega) (fun W' hc => by simp [results, Tryz.results82, go_sem, hc]) (fun W' hb => ⟨by rw [HH.out.2.2], hb⟩)
end Go.Proofs.YtjjkfgjnadaheaaGreatDoor
/- ground's maker: the tuples of a list of binds. -/
namespace Go.Proofs.YtjjkfgjnadaheaaGreatDoor
open Go.RowKit Go.Chalk
attribute [local go_sem] Oper.semAt_some
structure RowsIn (s : Schl) (x : SchA) (l : List Bnd) (ya : SlA) (F : Nat -> Prop) (lb mp mb : Nat) (W : World) : Prop where
  sch : SchIn W F s x
  bnds : SlIn W F (l.map Bnd.toD) ya
  lbox : W.heap[lb]? = some (.cells #[.slice ya.a l.length ya.cap] 31 (0, 0))
  mbox : W.heap[mp]? = some (.cells #[.pointer (some ⟨mb, 0, none⟩)] 83 (0, 0))
theorem RowsIn.agree {s : Schl} {x : SchA} {l : List Bnd} {ya : SlA} {F : Nat -> Prop} {lb mp mb : Nat} {W W' : World} (h : RowsIn s x l ya F lb mp mb W) (ha : Agree (fun k => F k ∨ k = lb ∨ k = mp) W W') : RowsIn s x l ya F lb mp mb W' :=
  ⟨h.sch.agree (ha.mono (fun k hk => .inl hk)), h.bnds.agree (ha.mono (fun k hk => .inl hk)), (ha lb (.inr (.inl rfl))).trans h.lbox, (ha mp (.inr (.inr rfl))).trans h.mbox⟩

set_option maxRecDepth 100000 in
set_option maxHeartbeats 4000000 in
theorem rows1_iter (s : Schl) (x : SchA) (l : List Bnd) (ya : SlA) (w : World) (lb mp mb : Nat) (F : Nat -> Prop) (hI : ItoaAt) (hsm : SchSmall s) (hr : RowsIn s x l ya F lb mp mb w) (hmax : l.length <= 2000000) :
    IterP Tryz.prog 207 #[.pointer (some ⟨lb, 0, none⟩), .pointer (some ⟨mp, 0, none⟩)] (tuplesF (sizesF s l)).length 1 (tupE (sizesF s l)) (fun W => ∃ left, MkB W mb s x left) (fun k => F k ∨ k = lb ∨ k = mp) w := by
  intro lp J Jx Jp T W hAg hD hT hJ hJx hKw hY h0
  have hrW := hr.agree hAg
  have hsz : (sizesF s l).length = l.length := by simp [sizesF]
  have hszm : ∀ k ∈ sizesF s l, k <= 2000000 := fun k hk => by
    obtain ⟨b, _, rfl⟩ := List.mem_map.1 hk
    have h1 := hsm.slots; have h2 := hsm.rooms; have h3 := hsm.people; have h4 := hsm.groups; have h5 := hsm.lessons; rw [schCount_eq]; repeat' split
    all_goals omega
  have HY := Lib.hid hY
  have HJ := Lib.hid hJ
  have HJX := Lib.hid hJx
  have HKW := Lib.hid hKw
  have HD := Lib.hid hD
  have HT := Lib.hid hT
  have HR := Lib.hid hrW
  have H0 := Lib.hid h0
  have HZ := Lib.hid hszm
  have HI := Lib.hid (And.intro hI (And.intro hsm hsz))
  have hmk := make_ints l.length hmax
  -- what school.Count says wherever the iterator stands
  have hCT : ∀ (i : Nat) (hi : i < l.length) (W1 : World), Agree (fun k => F k ∨ k = lb ∨ k = mp) W W1 -> W.heap.size <= W1.heap.size -> Calls Tryz.prog 98 #[.agg (x.cells s).toArray, .int .i64 l[i].sort] W1 fun e w' => e = .returned (.int .i64 ((sizesF s l)[i]'(by rw [hsz]; exact hi) : Nat)) /\ Below W1.heap.size W1 w' := fun i hi W1 ha hz => by
    have := count_any s x l[i].sort W1 hI ((hrW.agree ha).sch.mono (fun k hk => by have := (hD k (.inl hk)).1; omega)) hsm
    simpa [sizesF] using this
  have HCT := Lib.hid hCT
  simp only [SchA.cells, SlA.val] at HCT
  clear hY hJ hJx hKw hD hT hAg hrW hr h0 hszm hCT hI hsm
  show Calls Tryz.prog 207 #[.func (.yield lp) #[] #[], .pointer (some ⟨lb, 0, none⟩), .pointer (some ⟨mp, 0, none⟩)] W _
  refine (callsIn_wide (n := 0)).1 (callsIn_of_wp Tryz.func207 rfl trivial ?_ rfl)
  simp only [Tryz.ntmps207, List.size_toArray, List.length_cons, List.length_nil, Nat.reduceAdd, Nat.reduceSub, Array.replicate_succ, Array.replicate_zero, List.push_toArray, List.append_toArray, List.nil_append, List.cons_append]
  have q1 : W.cell? ⟨lb, 0, none⟩ = some (.slice ya.a l.length ya.cap) := cell_of_heap HR.out.lbox rfl
  have hlb : lb < W.heap.size := (HD.out lb (.inr (.inl rfl))).1
  have hnb : Below W.heap.size W (W.alloc (.cells ((List.replicate l.length 0).map (fun (n : Nat) => Value.int .i64 n)).toArray 3)) := (Below.refl _ _).alloc (Nat.le_refl _) _
  have R0 : TuB 3 J T T W (W.alloc (.cells ((List.replicate l.length 0).map (fun (n : Nat) => Value.int .i64 n)).toArray 3)) 0 W.heap.size (List.replicate l.length 0) :=
    ⟨Ext.refl _ _ _, Chalk.Mod.of_below hnb, HJ.out _ _ _ _ _ H0.out (Chalk.Mod.of_below (S := fun _ => False) hnb) (fun _ h => h.elim), fun h => by have := HT.out _ h; omega, Nat.le_refl _, boxed (B := W.heap.size + 1) (Below.refl _ _) (by omega)⟩
  have HR0 := Lib.hid R0
  clear hnb R0 H0
  gi_wp2_with fail
  gi_loopg [13] l.length (fun k v wr => ∃ j : Nat, k + j = l.length /\ v = .int .i64 j /\ Hid (TuB 3 J T T W wr 0 W.heap.size (List.replicate l.length 0)) /\ Hid (∀ q (h : q < (sizesF s l).length), q < j -> 0 < (sizesF s l)[q]))
  case atStart => exact ⟨0, by omega, rfl, Lib.hid (by have := HR0.out; simpa using this), Lib.hid (fun q h hq => by omega)⟩
  case round =>
    obtain ⟨j, hkj, rfl, HB, HP⟩ := hrel
    clear HR0 q1
    have hA := HB.out.mod.agree HD.out
    have hRR := HR.out.agree hA
    have hzz := HB.out.mod.size
    by_cases hlt : j < l.length
    · obtain ⟨lf, hmB⟩ := HKW.out _ _ _ HB.out.inv
      obtain ⟨m0, m1, m2, m3, m4, _, _⟩ := hmB.cells
      have hmlt := hmB.lt
      have hp : wr.cell? ⟨mp, 0, none⟩ = some (.pointer (some ⟨mb, 0, none⟩)) := cell_of_heap hRR.mbox rfl
      have hplt : mp < wr.heap.size := (Array.getElem?_eq_some_iff.1 hRR.mbox).1
      obtain ⟨g1, _, _, g4, _⟩ := hRR.bnds.flat Bnd.flatT
      obtain ⟨hxa, hFb⟩ := g1 (by omega)
      obtain ⟨e0, e1⟩ := g4.two j hlt rfl
      have hsj : j < (sizesF s l).length := by have := HI.out.2.2; omega
      have hb1 : Below wr.heap.size wr (wr.alloc (.cells #[.string ⟨l[j].name.toArray⟩, .int .i64 l[j].sort] 149)).drew := ((Below.refl _ _).alloc (Nat.le_refl _) _).drew
      have hct := HCT.out j hlt (wr.alloc (.cells #[.string ⟨l[j].name.toArray⟩, .int .i64 l[j].sort] 149)).drew (hA.trans ((agree_of_below hb1).mono (fun k hk => by have := (HD.out k hk).1; omega))) (by have := hb1.size; omega)
      have HSJ : Hid (∃ c, (sizesF s l)[j] = c) := Lib.hid ⟨_, rfl⟩
      have HB1 := Lib.hid hb1
      have HC := Lib.hid hct
      have HXA := Lib.hid hxa
      rw [hxa]
      have hjl : (j : Int) < (l.length : Int) := by omega
      clear hA hRR hmB g1 g4 hFb hct hb1 hxa HSJ
      obtain ⟨c, hc⟩ : ∃ c, (sizesF s l)[j] = c := ⟨_, rfl⟩
      rw [hc] at HC
      have HSJ := Lib.hid hc
      clear hc
      generalize l[j] = be at e0 e1 HB1 HC
      obtain ⟨nm, so⟩ := be
      simp only at e0 e1 HB1 HC
      rcases Nat.eq_zero_or_pos c with h0 | h0
      · subst h0
        gi_wp2_with fail
        gi_region_with (first | (refine ⟨trivial, rfl, (callsIn_wide.2 HC.out).mono ?_⟩; rintro e w' ⟨rfl, hb⟩; have HW := Lib.hid hb; clear hb) | fail)
        all_goals
          gi_wp2_with fail
          go_end0
          have hbw : Below wr.heap.size wr w' := HB1.out.trans (HW.out.mono HB1.out.size)
          have R := HB.out.own HJ.out (Chalk.Mod.of_below hbw) ((hbw.block _ (Array.getElem?_eq_some_iff.1 HB.out.box).1).trans HB.out.box)
          refine ⟨T, R.ext, R.mod, .inl ⟨⟨_, rfl⟩, .inl ?_⟩⟩
          have hm0 : (tuplesF (sizesF s l)).length = 0 := by rw [tuples_length]; exact prod_zero _ (by rw [<- HSJ.out]; exact List.getElem_mem _)
          rw [hm0]; exact R.inv
      · have hne : ((c : Int) == 0) = false := by simp; omega
        gi_wp2_with fail
        gi_region_with (first | (refine ⟨trivial, rfl, (callsIn_wide.2 HC.out).mono ?_⟩; rintro e w' ⟨rfl, hb⟩; have HW := Lib.hid hb; clear hb) | fail)
        all_goals
          gi_wp2_with fail
          have hbw : Below wr.heap.size wr w' := HB1.out.trans (HW.out.mono HB1.out.size)
          have R := Lib.hid (HB.out.own HJ.out (Chalk.Mod.of_below hbw) ((hbw.block _ (Array.getElem?_eq_some_iff.1 HB.out.box).1).trans HB.out.box))
          have HP2 : Hid (∀ q (h : q < (sizesF s l).length), q < j + 1 -> 0 < (sizesF s l)[q]) := Lib.hid (fun q h hq => by
            by_cases hqj : q = j
            · subst hqj; rw [HSJ.out]; exact h0
            · exact HP.out q h (by omega))
          clear hbw
          rw [<- HXA.out]
          gi_roundg (l.length - (j + 1))
          case measure => omega
          case rel => exact ⟨j + 1, by omega, by go_num, R, HP2⟩
    · have hpos : ∀ k ∈ sizesF s l, 0 < k := fun k hk => by
        obtain ⟨q, hq, rfl⟩ := List.mem_iff_getElem.1 hk
        exact HP.out q hq (by have := HI.out.2.2; omega)
      have HPS := Lib.hid hpos
      have HR0 : Hid (TuB 3 J T T W wr 0 W.heap.size (List.replicate l.length 0) /\ (tuplesF (sizesF s l))[0]? = some (List.replicate l.length 0)) := Lib.hid ⟨HB.out, by have := tuples_first _ hpos; rwa [HI.out.2.2] at this⟩
      clear hA hRR hpos HP hzz HB hkj
      obtain ⟨wo, rfl⟩ : ∃ wo, wo = wr := ⟨wr, rfl⟩
      gi_wp2_with fail
      gi_loopg [] (tuplesF (sizesF s l)).length (fun k wr => ∃ (j : Nat) (T1 : Nat -> Prop) (ts : List Nat), k + j = (tuplesF (sizesF s l)).length /\ Hid (TuB 3 J T T1 W wr j W.heap.size ts /\ (tuplesF (sizesF s l))[j]? = some ts))
      case atStart => exact ⟨0, T, List.replicate l.length 0, by omega, HR0⟩
      case round =>
        obtain ⟨j, T1, ts, hkj, HR2⟩ := hrel
        clear HR0
        obtain ⟨hjl, htj⟩ := List.getElem?_eq_some_iff.1 HR2.out.2
        have hmem := (tuples_mem (sizesF s l) ts).1 (htj ▸ List.getElem_mem hjl)
        have hle : ∀ k ∈ ts, k <= 2000000 := fun k hk => by
          obtain ⟨i, hi, rfl⟩ := List.mem_iff_getElem.1 hk
          have := hmem.2 i (by have := hmem.1; omega) (by omega)
          have := HZ.out _ (List.getElem_mem (show i < (sizesF s l).length by have := hmem.1; omega))
          omega
        have htl : ts.length = l.length := hmem.1.trans HI.out.2.2
        have hsl := HR2.out.1.box.sl (F := (· < wr.heap.size)) (Array.getElem?_eq_some_iff.1 HR2.out.1.box).1 (by unfold maxLen; omega) hle
        have hcl := clone_Int (nats ts) _ wr hsl (by rw [nats_length]; omega)
        have HCL := Lib.hid hcl
        have HMM := Lib.hid (And.intro hmem hle)
        have HJL := Lib.hid (And.intro hjl hkj)
        simp only [SlA.val, nats_length, htl] at HCL
        have HTL := Lib.hid htl
        clear hmem hle hsl hcl hjl htj hkj htl
        gi_wp2_with fail
        refine ⟨trivial, rfl, (callsIn_wide.2 HCL.out).mono ?_⟩
        rintro e w1 ⟨v, r, rfl, hown, hnew, hb⟩
        obtain ⟨xc, hv, hxc⟩ := hown.sl (G := fun k => r = some k) (fun _ h => h.elim) (fun k hk => hk) (by rw [widths_map Int.flatT]; simp)
        simp only [List.length_map, nats_length, HTL.out] at hv
        subst hv
        have hSS : ∀ k, r = some k -> W.heap.size <= k /\ k < w1.heap.size /\ ¬ T1 k := fun k hk => by
          have h1 := hnew k hk
          have h2 := HR2.out.1.mod.size
          exact ⟨by omega, hown.row_lt hk, fun h => by have := HR2.out.1.lt HT.out k h; omega⟩
        have hS2 : ∀ k, r = some k -> W.heap.size <= k /\ k < w1.heap.size /\ k ≠ W.heap.size := fun k hk => by
          have h1 := hnew k hk
          have h2 := (Array.getElem?_eq_some_iff.1 HR2.out.1.box).1
          exact ⟨(hSS k hk).1, (hSS k hk).2.1, by omega⟩
        have R1 : TuB 3 J T T1 W w1 j W.heap.size ts := HR2.out.1.own HJ.out (Chalk.Mod.of_below hb) ((hb.block _ (Array.getElem?_eq_some_iff.1 HR2.out.1.box).1).trans HR2.out.1.box)
        have hE : tupE (sizesF s l) j #[.slice xc.a l.length xc.cap] (fun k => r = some k) w1 := ⟨xc, by rw [HI.out.2.2], by rw [HR2.out.2]; exact hxc⟩
        obtain ⟨fn, tmps, assign, body, hy, hRd⟩ := HY.out j T1 w1 #[.slice xc.a l.length xc.cap] (fun k => r = some k) HJL.out.1 R1.inv (R1.lt HT.out) hSS hE rfl
        have HRR := Lib.hid hRd
        have HR1 := Lib.hid (And.intro R1 hS2)
        have hnx := tuples_next (sizesF s l) HPS.out j ts HR2.out.2
        have HNX := Lib.hid hnx
        clear hRd R1 hSS hS2 hE hb hnew hown hxc hnx
        simp only [SlA.val]
        gi_wp2_with fail
        refine ⟨rfl, HRR.out.mono ?_⟩
        rintro e W2 ⟨T2, he, hm, ⟨rfl, hj2⟩ | ⟨rfl, hj2⟩ | ⟨ch, rfl, hjp⟩⟩
        rotate_left
        · have HR3 := Lib.hid (HR1.out.1.round HR1.out.2 he hm hj2)
          clear he hm hj2 hy
          gi_wp2_with fail
          go_end0
          exact ⟨T2, HR3.out.ext, HR3.out.mod, .inl ⟨⟨_, rfl⟩, .inr ⟨j + 1, by omega, by have := HJL.out.1; omega, HR3.out.inv⟩⟩⟩
        · have HR3 := Lib.hid (HR1.out.1.round (J2 := fun _ => Jp ch) (j2 := 0) HR1.out.2 he hm hjp)
          clear he hm hjp hy
          exact ⟨rfl, T2, HR3.out.ext, HR3.out.mod, .inr ⟨ch, rfl, HR3.out.inv⟩⟩
        · have HR3 := Lib.hid (HR1.out.1.round HR1.out.2 he hm hj2)
          clear he hm hj2 hy HRR
          gi_wp2_with fail
          gi_loopg [7] l.length (fun k s7 wr2 => s7 = .int .i64 ((k : Int) - 1) /\ k <= l.length /\ Hid (TuB 3 J T T2 W wr2 (j + 1) W.heap.size (ts.take k ++ List.replicate (l.length - k) 0)) /\ Hid (∀ (q : Nat) (h : q < (sizesF s l).length) (h' : q < ts.length), k <= q -> ts[q] + 1 = (sizesF s l)[q]))
          case atStart =>
            refine ⟨by go_num, Nat.le_refl _, Lib.hid ?_, Lib.hid (fun q h h' hk => by have := HTL.out; omega)⟩
            rw [Nat.sub_self, List.replicate_zero, List.append_nil, List.take_of_length_le (by have := HTL.out; omega)]
            exact HR3.out
          case round =>
            obtain ⟨rfl, hkn, HI3, HQ3⟩ := hrel
            cases gk with
            | zero =>
              have hnone : nextT (sizesF s l) ts = none := nextT_none (sizesF s l) ts (HTL.out.trans HI.out.2.2.symm).symm (fun p h h' => HQ3.out p h h' (Nat.zero_le _))
              have HE : Hid (j + 1 = (tuplesF (sizesF s l)).length) := Lib.hid (by
                have h1 := HNX.out
                rw [hnone] at h1
                have := List.getElem?_eq_none_iff.1 h1
                have := HJL.out.1
                omega)
              clear hnone
              gi_wp2_with fail
              go_end0
              refine ⟨T2, HI3.out.ext, HI3.out.mod, .inl ⟨⟨_, rfl⟩, .inl ?_⟩⟩
              rw [<- HE.out]; exact HI3.out.inv
            | succ q =>
              have hqi : (((q + 1 : Nat) : Int) - 1) = (q : Int) := by omega
              rw [hqi]
              have hqn : (q : Int) < (l.length : Int) := by omega
              have hqs : q < (sizesF s l).length := by have := HI.out.2.2; omega
              have htq : q < ts.length := by have := HTL.out; omega
              have hlen : (ts.take (q + 1) ++ List.replicate (l.length - (q + 1)) 0).length = l.length := by have := HTL.out; simp; omega
              have c0 : wr.cell? ⟨W.heap.size, q, none⟩ = some (.int .i64 (ts[q] : Nat)) := by
                have := HI3.out.box.cell q (by rw [hlen]; omega)
                rw [tup_get HTL.out (by omega)] at this
                exact this
              have hfz : wr.frozen? ⟨W.heap.size, q, none⟩ = false := frozen_of_heap HI3.out.box
              have hblt : W.heap.size < wr.heap.size := (Array.getElem?_eq_some_iff.1 HI3.out.box).1
              have hub : ts[q] <= 2000000 := HMM.out.2 _ (List.getElem_mem htq)
              have hA := HI3.out.mod.agree HD.out
              have hRR := HR.out.agree hA
              obtain ⟨lf, hmB⟩ := HKW.out _ _ _ HI3.out.inv
              obtain ⟨m0, m1, m2, m3, m4, _, _⟩ := hmB.cells
              have hmlt := hmB.lt
              have hp : wr.cell? ⟨mp, 0, none⟩ = some (.pointer (some ⟨mb, 0, none⟩)) := cell_of_heap hRR.mbox rfl
              have hlx : wr.cell? ⟨lb, 0, none⟩ = some (.slice ya.a l.length ya.cap) := cell_of_heap hRR.lbox rfl
              have hpne : mp ≠ W.heap.size := by have := (HD.out mp (.inr (.inr rfl))).1; omega
              have hlne : lb ≠ W.heap.size := by have := (HD.out lb (.inr (.inl rfl))).1; omega
              have hmne : mb ≠ W.heap.size := by
                rintro rfl
                have h1 := hmB
                have h2 := HI3.out.box
                unfold MkB at h1; unfold TB at h2
                rw [h2] at h1
                simp at h1
              obtain ⟨g1, _, _, g4, _⟩ := hRR.bnds.flat Bnd.flatT
              obtain ⟨hxa, hFb⟩ := g1 (by omega)
              have hbne : ya.b ≠ W.heap.size := by have := (HD.out _ (.inl hFb)).1; omega
              obtain ⟨e0, e1⟩ := g4.two q (by omega) rfl
              have hlc := HMM.out.1.2 q htq hqs
              have hxq := hxa
              rw [hxa] at hlx
              have hylt : ya.b < wr.heap.size := by have := (HD.out _ (.inl hFb)).1; have := HI3.out.mod.size; omega
              have hllt : lb < wr.heap.size := (Array.getElem?_eq_some_iff.1 hRR.lbox).1
              have hplt : mp < wr.heap.size := (Array.getElem?_eq_some_iff.1 hRR.mbox).1
              obtain ⟨u, hu⟩ : ∃ u, ts[q] = u := ⟨_, rfl⟩
              obtain ⟨c, hc⟩ : ∃ c, (sizesF s l)[q] = c := ⟨_, rfl⟩
              obtain ⟨be, hbe⟩ : ∃ be, l[q]'(by omega) = be := ⟨_, rfl⟩
              obtain ⟨Wx, hWx⟩ : ∃ Wx, wr.setCell ⟨W.heap.size, q, none⟩ (.int .i64 ((u : Int) + 1)) = Wx := ⟨_, rfl⟩
              have hm1 : Chalk.Mod (fun k => k = W.heap.size) wr Wx := by rw [<- hWx]; exact (Chalk.Mod.refl (fun k => k = W.heap.size) wr).setCell (p := ⟨W.heap.size, q, none⟩) (fun _ => rfl) _
              have hbx : TB 3 Wx W.heap.size ((ts.take (q + 1) ++ List.replicate (l.length - (q + 1)) 0).set q (u + 1)) := by rw [<- hWx]; exact TB.store (W := wr) HI3.out.box q (u + 1)
              have hct := HCT.out q (by omega) Wx.drew (hA.trans (hm1.drew.agree (fun k hk => by have := (HD.out k hk).1; exact ⟨by omega, by omega⟩))) (by have := hm1.drew.size; omega)
              have hzx : Wx.heap.size = wr.heap.size := by rw [<- hWx]; simp
              have oth : ∀ (b o : Nat) (v : Value), b ≠ W.heap.size -> b < wr.heap.size -> wr.cell? ⟨b, o, none⟩ = some v -> ∀ W', Below Wx.heap.size Wx W' -> W'.cell? ⟨b, o, none⟩ = some v := fun b o v hne hlt h W' hb =>
                (hb.cell (p := ⟨b, o, none⟩) (by show b < _; omega)).trans ((World.cell?_of_block (by rw [<- hWx]; exact set_heap_other hne)).trans h)
              have hc9 : Wx.cell? ⟨W.heap.size, q, none⟩ = some (.int .i64 ((u : Int) + 1)) := by
                have h2 := hbx.cell q (by simp; have := HTL.out; omega)
                simpa using h2
              rw [hbe] at e0 e1 hct
              rw [hc] at hct hlc
              rw [hu] at c0 hub hlc
              have HU := Lib.hid (And.intro hu (And.intro hc (And.intro hqs htq)))
              clear hu hc hbe g1 g4 hFb hRR hmB hA hqi hlen
              obtain ⟨nm, so⟩ := be
              simp only at e0 e1 hct
              have HX : Hid (∀ w', Below Wx.heap.size Wx w' -> w'.cell? ⟨W.heap.size, q, none⟩ = some (.int .i64 ((u : Int) + 1)) /\ w'.cell? ⟨mp, 0, none⟩ = some (.pointer (some ⟨mb, 0, none⟩)) /\ w'.cell? ⟨mb, 0, none⟩ = some (.slice x.slots.a s.slots.length x.slots.cap) /\ w'.cell? ⟨mb, 1, none⟩ = some (.slice x.rooms.a s.rooms.length x.rooms.cap) /\ w'.cell? ⟨mb, 2, none⟩ = some (.slice x.people.a s.people.length x.people.cap) /\ w'.cell? ⟨mb, 3, none⟩ = some (.slice x.groups.a s.groups.length x.groups.cap) /\ w'.cell? ⟨mb, 4, none⟩ = some (.slice x.lessons.a s.lessons.length x.lessons.cap) /\ w'.cell? ⟨lb, 0, none⟩ = some (.slice (some ⟨ya.b, ya.o, none⟩) l.length ya.cap) /\ w'.cell? ⟨ya.b, ya.o + q * 2 + 1, none⟩ = some (.int .i64 so)) := Lib.hid (fun w' hb =>
                ⟨(hb.cell (p := ⟨W.heap.size, q, none⟩) (by show W.heap.size < _; omega)).trans hc9, oth mp 0 _ hpne hplt hp w' hb, oth mb 0 _ hmne hmlt m0 w' hb, oth mb 1 _ hmne hmlt m1 w' hb, oth mb 2 _ hmne hmlt m2 w' hb, oth mb 3 _ hmne hmlt m3 w' hb, oth mb 4 _ hmne hmlt m4 w' hb, oth lb 0 _ hlne hllt hlx w' hb, oth ya.b (ya.o + q * 2 + 1) _ hbne hylt e1 w' hb⟩)
              have HN := Lib.hid (And.intro hm1 hbx)
              have HC := Lib.hid hct
              have HXQ := Lib.hid hxq
              have HBX := Lib.hid (Below.refl Wx.heap.size Wx).drew
              clear hm1 hbx hct hzx oth hc9 hxq hxa m0 m1 m2 m3 m4 hp hlx e0 e1 hpne hlne hmne hbne hylt hllt hplt hmlt
              by_cases hd : u + 1 = c
              · have hcl : ¬ ((u : Int) + 1 < (c : Int)) := by omega
                have HD2 := Lib.hid hd
                clear hd hlc
                gi_wp2_with fail
                try rw [hWx]
                refine wpIn_wide.2 ?_
                go_region_held3 (fun w' => w'.cell? ⟨W.heap.size, q, none⟩ = some (.int .i64 ((u : Int) + 1)) /\ w'.cell? ⟨mp, 0, none⟩ = some (.pointer (some ⟨mb, 0, none⟩)) /\ w'.cell? ⟨mb, 0, none⟩ = some (.slice x.slots.a s.slots.length x.slots.cap) /\ w'.cell? ⟨mb, 1, none⟩ = some (.slice x.rooms.a s.rooms.length x.rooms.cap) /\ w'.cell? ⟨mb, 2, none⟩ = some (.slice x.people.a s.people.length x.people.cap) /\ w'.cell? ⟨mb, 3, none⟩ = some (.slice x.groups.a s.groups.length x.groups.cap) /\ w'.cell? ⟨mb, 4, none⟩ = some (.slice x.lessons.a s.lessons.length x.lessons.cap) /\ w'.cell? ⟨lb, 0, none⟩ = some (.slice (some ⟨ya.b, ya.o, none⟩) l.length ya.cap) /\ w'.cell? ⟨ya.b, ya.o + q * 2 + 1, none⟩ = some (.int .i64 so)) ((refine HX.out _ ?_; first | exact HW.out | exact HBX.out | fail)) (first | (go_at_call 98; refine HC.out.mono ?_; rintro e w' ⟨rfl, hb⟩; have HW := Lib.hid (HBX.out.trans (hb.mono (Nat.le_refl _))); clear hb) | fail)
                all_goals
                  have hbx' := (HW.out.block _ (Array.getElem?_eq_some_iff.1 HN.out.2).1).trans HN.out.2
                  have hf9 : w'.frozen? ⟨W.heap.size, q, none⟩ = false := frozen_of_heap hbx'
                  have HBX' := Lib.hid (And.intro hbx' (HN.out.1.trans (Chalk.Mod.of_below (S := fun k => k = W.heap.size) HW.out) (fun _ _ h => h)))
                  clear hbx'
                  gi_wp2_with fail
                  gi_roundg q
                  case measure => omega
                  case rel =>
                    refine ⟨by go_num, by omega, Lib.hid ?_, Lib.hid (fun p h h' hqp => ?_)⟩
                    · refine HI3.out.own HJ.out (HBX'.out.2.setCell (p := ⟨W.heap.size, q, none⟩) (fun _ => rfl) _) ?_
                      have h1 := TB.store (W := w') HBX'.out.1 q 0
                      rw [List.set_set, tup_zero HTL.out (by omega)] at h1
                      exact h1
                    · by_cases hpq : p = q
                      · subst hpq; rw [HU.out.1, HU.out.2.1]; exact HD2.out
                      · exact HQ3.out p h h' (by omega)
              · have hcl : (u : Int) + 1 < (c : Int) := by omega
                have HD2 := Lib.hid hd
                clear hd hlc
                gi_wp2_with fail
                try rw [hWx]
                refine wpIn_wide.2 ?_
                go_region_held3 (fun w' => w'.cell? ⟨W.heap.size, q, none⟩ = some (.int .i64 ((u : Int) + 1)) /\ w'.cell? ⟨mp, 0, none⟩ = some (.pointer (some ⟨mb, 0, none⟩)) /\ w'.cell? ⟨mb, 0, none⟩ = some (.slice x.slots.a s.slots.length x.slots.cap) /\ w'.cell? ⟨mb, 1, none⟩ = some (.slice x.rooms.a s.rooms.length x.rooms.cap) /\ w'.cell? ⟨mb, 2, none⟩ = some (.slice x.people.a s.people.length x.people.cap) /\ w'.cell? ⟨mb, 3, none⟩ = some (.slice x.groups.a s.groups.length x.groups.cap) /\ w'.cell? ⟨mb, 4, none⟩ = some (.slice x.lessons.a s.lessons.length x.lessons.cap) /\ w'.cell? ⟨lb, 0, none⟩ = some (.slice (some ⟨ya.b, ya.o, none⟩) l.length ya.cap) /\ w'.cell? ⟨ya.b, ya.o + q * 2 + 1, none⟩ = some (.int .i64 so)) ((refine HX.out _ ?_; first | exact HW.out | exact HBX.out | fail)) (first | (go_at_call 98; refine HC.out.mono ?_; rintro e w' ⟨rfl, hb⟩; have HW := Lib.hid (HBX.out.trans (hb.mono (Nat.le_refl _))); clear hb) | fail)
                all_goals
                  have hbx' := (HW.out.block _ (Array.getElem?_eq_some_iff.1 HN.out.2).1).trans HN.out.2
                  have hf9 : w'.frozen? ⟨W.heap.size, q, none⟩ = false := frozen_of_heap hbx'
                  have HBX' := Lib.hid (And.intro hbx' (HN.out.1.trans (Chalk.Mod.of_below (S := fun k => k = W.heap.size) HW.out) (fun _ _ h => h)))
                  clear hbx'
                  have hnt := nextT_at (sizesF s l) ts q HU.out.2.2.1 HU.out.2.2.2 (HTL.out.trans HI.out.2.2.symm).symm (fun h => HD2.out ((congrArg (· + 1) HU.out.1).symm.trans (h.trans HU.out.2.1))) (fun p h h' hqp => HQ3.out p h h' (by omega))
                  have HN2 := Lib.hid (HNX.out.trans hnt)
                  clear hnt
                  gi_wp2_with fail
                  gi_roundg ((tuplesF (sizesF s l)).length - (j + 1))
                  case measure => have := HJL.out; omega
                  case rel =>
                    refine ⟨j + 1, T2, ts.take q ++ [u + 1] ++ List.replicate (l.length - 1 - q) 0, by have := HJL.out; omega, Lib.hid ⟨?_, ?_⟩⟩
                    · refine HI3.out.own HJ.out HBX'.out.2 ?_
                      rw [<- tup_up HTL.out (by omega)]
                      exact HBX'.out.1
                    · rw [HN2.out, HU.out.1, HTL.out]
set_option maxRecDepth 100000 in
theorem rows_any (mb : Nat) (a : Option Addr) (n cap : Nat) (w : World) :
    Calls Tryz.prog 151 #[.pointer (some ⟨mb, 0, none⟩), .slice a n cap] w fun e w' => e = .returned (.func (.func 207) #[] #[.pointer (some ⟨w.heap.size + 1, 0, none⟩), .pointer (some ⟨w.heap.size, 0, none⟩)]) /\ (w.alloc (.cells #[.pointer (some ⟨mb, 0, none⟩)] 83)).alloc (.cells #[.slice a n cap] 31) = w' := by
  have hmf : ∀ (fn : Fn) (first cap : Array Value) (w : World), (Instr.makeFunc fn first cap).run Tryz.prog w = .ok (.func fn first cap) w := fun _ _ _ _ => rfl
  go_enter Tryz.func151, Tryz.ntmps151
  go_wp2_with fail
  go_ret
  exact ⟨rfl, rfl⟩
end Go.Proofs.YtjjkfgjnadaheaaGreatDoor
/- A list in a box grows by an element that is appended as zero and stored behind. No program is named here. -/
namespace Go.Chalk
open Go.RowKit
def put4 (W : World) (g o : Nat) (c0 c1 c2 c3 : Value) : World := (((W.setCell ⟨g, o, none⟩ c0).setCell ⟨g, o + 1, none⟩ c1).setCell ⟨g, o + 2, none⟩ c2).setCell ⟨g, o + 3, none⟩ c3
theorem put4_mod (W : World) (g o : Nat) (c0 c1 c2 c3 : Value) : Mod (fun k => k = g) W (put4 W g o c0 c1 c2 c3) :=
  ((((Mod.refl (fun k => k = g) W).setCell (p := ⟨g, o, none⟩) (fun _ => rfl) c0).setCell (p := ⟨g, o + 1, none⟩) (fun _ => rfl) c1).setCell (p := ⟨g, o + 2, none⟩) (fun _ => rfl) c2).setCell (p := ⟨g, o + 3, none⟩) (fun _ => rfl) c3
theorem row_last {w : World} {g cap n : Nat} {e : TypeId} {cs : List Value} {z0 z1 z2 z3 : Value} (h : w.ownsRow 0 e 4 (.slice (some ⟨g, 0, none⟩) (n + 1) cap) (n + 1) (cs ++ [z0, z1, z2, z3])) :
    cs.length = n * 4 /\ ∃ cur : Array Value, w.heap[g]? = some (.cells cur e (0, 0)) /\ n + 1 <= cap /\ cap <= maxLen /\ cur.size = cap * 4 /\ cur.toList.take ((n + 1) * 4) = cs ++ [z0, z1, z2, z3] := by
  obtain ⟨hl, h | ⟨g', cap', cur, hv, _, hh, h1, h2, h3, h4⟩⟩ := h
  · cases h.1
  · cases hv
    exact ⟨by simp at hl; omega, cur, hh, h1, h2, h3, h4⟩
theorem row_cells {w : World} {g cap n : Nat} {e : TypeId} {cs : List Value} {z0 z1 z2 z3 : Value} (h : w.ownsRow 0 e 4 (.slice (some ⟨g, 0, none⟩) (n + 1) cap) (n + 1) (cs ++ [z0, z1, z2, z3])) :
    (w.cell? ⟨g, n * 4, none⟩ = some z0 /\ w.cell? ⟨g, n * 4 + 1, none⟩ = some z1 /\ w.cell? ⟨g, n * 4 + 2, none⟩ = some z2 /\ w.cell? ⟨g, n * 4 + 3, none⟩ = some z3) /\
    (∀ j, w.frozen? ⟨g, j, none⟩ = false) /\ g < w.heap.size /\ n < cap := by
  obtain ⟨hl, cur, hh, h1, h2, h3, h4⟩ := row_last h
  have key : ∀ j, j < 4 -> cur[n * 4 + j]? = ([z0, z1, z2, z3] : List Value)[j]? := fun j hj => by
    have e := congrArg (fun l : List Value => l[n * 4 + j]?) h4
    simp only [List.getElem?_take, if_pos (show n * 4 + j < (n + 1) * 4 by omega)] at e
    rw [<- Array.getElem?_toList, e, List.getElem?_append_right (by omega), hl]
    congr 1; omega
  refine ⟨⟨?_, ?_, ?_, ?_⟩, fun j => frozen_of_heap hh, (Array.getElem?_eq_some_iff.1 hh).1, by omega⟩
  · exact cell_of_heap hh (by have := key 0 (by omega); simpa using this)
  · exact cell_of_heap hh (by have := key 1 (by omega); simpa using this)
  · exact cell_of_heap hh (by have := key 2 (by omega); simpa using this)
  · exact cell_of_heap hh (by have := key 3 (by omega); simpa using this)
theorem row_set4 {w : World} {g cap n : Nat} {e : TypeId} {cs : List Value} {z0 z1 z2 z3 : Value} (h : w.ownsRow 0 e 4 (.slice (some ⟨g, 0, none⟩) (n + 1) cap) (n + 1) (cs ++ [z0, z1, z2, z3])) (c0 c1 c2 c3 : Value) :
    (put4 w g (n * 4) c0 c1 c2 c3).ownsRow 0 e 4 (.slice (some ⟨g, 0, none⟩) (n + 1) cap) (n + 1) (cs ++ [c0, c1, c2, c3]) := by
  obtain ⟨hl, cur, hh, h1, h2, h3, h4⟩ := row_last h
  have hb := box_store (i := n * 4 + 3) c3 (box_store (i := n * 4 + 2) c2 (box_store (i := n * 4 + 1) c1 (box_store (i := n * 4) c0 hh)))
  refine ⟨by simp; omega, .inr ⟨g, cap, _, rfl, Nat.zero_le _, hb, h1, h2, by simp [h3], ?_⟩⟩
  simp only [Array.toList_setIfInBounds]
  rw [List.take_set, List.take_set, List.take_set, List.take_set, h4]
  rw [List.set_append_right _ _ (by omega), List.set_append_right _ _ (by omega), List.set_append_right _ _ (by omega), List.set_append_right _ _ (by omega)]
  rw [hl, Nat.sub_self, show n * 4 + 1 - n * 4 = 1 by omega, show n * 4 + 2 - n * 4 = 2 by omega, show n * 4 + 3 - n * 4 = 3 by omega]
  rfl
theorem row_kept {w w' : World} {g cap n : Nat} {e : TypeId} {cs : List Value} (h : w.ownsRow 0 e 4 (.slice (some ⟨g, 0, none⟩) (n + 1) cap) (n + 1) cs) {S : Nat -> Prop} (hm : Mod S w w') (hS : ¬ S g) : w'.ownsRow 0 e 4 (.slice (some ⟨g, 0, none⟩) (n + 1) cap) (n + 1) cs := by
  obtain ⟨hl, h | ⟨g', cap', cur, hv, h0, hh, rest⟩⟩ := h
  · cases h.1
  · cases hv
    exact ⟨hl, .inr ⟨g, cap, cur, rfl, h0, heap_kept hh hm hS, rest⟩⟩
def BoxMb (W : World) (mb H : Nat) (t e : TypeId) (xs : List D) (T1 : Nat -> Prop) : Prop := ∃ T', (∀ k, T1 k ↔ T' k ∨ k = mb) /\ BoxOwn W H t e 4 H xs T'
theorem BoxMb.mb {W : World} {mb H : Nat} {t e : TypeId} {xs : List D} {T1 : Nat -> Prop} (h : BoxMb W mb H t e xs T1) : T1 mb := by
  obtain ⟨T', h1, _⟩ := h; exact (h1 _).2 (.inr rfl)
theorem BoxMb.kept {W W' : World} {mb H : Nat} {t e : TypeId} {xs : List D} {T1 S : Nat -> Prop} (h : BoxMb W mb H t e xs T1) (hm : Mod S W W') (hS : ∀ k, S k -> ¬ T1 k) : BoxMb W' mb H t e xs T1 := by
  obtain ⟨T', h1, h2⟩ := h; exact ⟨T', h1, h2.kept hm (fun k hk h => hS k hk ((h1 k).2 (.inl h)))⟩
theorem each_fin {W wc w7 wf : World} {T1 T' : Nat -> Prop} {mb H g cap n : Nat} {oa : Option Addr} {ocap : Nat} {r : Option Nat} {xs : List D} {cs tcs : List Value} {t : D} {te tt : TypeId} (hTT : ∀ k, T1 k ↔ T' k ∨ k = mb) (hmbH : mb < H)
    (b2 : T' H) (b3 : ∀ k, r = some k -> T' k /\ k ≠ H) (b4 : ∀ k, T' k -> H <= k /\ k < W.heap.size) (b5 : Chalk.Own W (fun k => T' k /\ k ≠ H /\ r ≠ some k) te 4 (.slice oa n ocap) r xs) (hcs : DsAt W (fun k => T' k /\ k ≠ H /\ r ≠ some k) xs cs)
    (hm : Mod (fun k => k = mb) W wc) (ht : DAt wc (fun k => W.heap.size <= k /\ k < wc.heap.size) t tcs)
    (hm7 : Mod (fun k => r = some k) wc w7) (hg : r = some g ∨ g = wc.heap.size) (hg7 : g < w7.heap.size) (hf : wf.ownsRow 0 te 4 (.slice (some ⟨g, 0, none⟩) (n + 1) cap) (n + 1) (cs ++ tcs)) (hxn : xs.length = n)
    (hbox : wf.heap[H]? = some (.cells #[.slice (some ⟨g, 0, none⟩) (n + 1) cap] tt (0, 0))) (hmf : Mod (fun k => k = g ∨ k = H) w7 wf) :
    ∃ T2, Ext T1 T2 W wf /\ Mod T1 W wf /\ BoxMb wf mb H tt te (xs ++ [t]) T2 := by
  have z1 := hm.size
  have z2 := hm7.size
  have z3 := hmf.size
  have hH := b4 H b2
  have hgH : g ≠ H := by
    rcases hg with h | h
    · exact (b3 g h).2
    · omega
  have hgw : r = some g ∨ W.heap.size <= g := hg.imp id (fun h => by omega)
  have hgl : H <= g := by
    rcases hgw with h | h
    · exact (b4 g (b3 g h).1).1
    · omega
  have hmW : Mod (fun k => k = mb ∨ r = some k ∨ k = H) W wf := by
    refine ((hm.mono (T := fun k => k = mb ∨ r = some k ∨ k = H) (fun _ => .inl)).trans hm7 (fun k _ h => .inr (.inl h))).trans hmf (fun k hk h => ?_)
    rcases h with h | h
    · subst h
      rcases hgw with h | h
      · exact .inr (.inl h)
      · omega
    · exact .inr (.inr h)
  have hnew : ∀ k, W.heap.size <= k -> k < wf.heap.size -> k ≠ H := fun k h _ => by omega
  refine ⟨fun k => (T' k ∨ (W.heap.size <= k /\ k < wf.heap.size)) ∨ k = mb, fun k hk => ?_, hmW.mono (fun k h => ?_), fun k => T' k ∨ (W.heap.size <= k /\ k < wf.heap.size), fun _ => Iff.rfl, .slice (some ⟨g, 0, none⟩) (n + 1) cap, some g, hbox, .inl b2, fun k hk => ?_, fun k hk => ?_, ?_⟩
  · rcases hk with (h | h) | h
    · exact .inl ((hTT k).2 (.inl h))
    · exact .inr h
    · exact .inl ((hTT k).2 (.inr h))
  · rcases h with h | h | h
    · exact (hTT k).2 (.inr h)
    · exact (hTT k).2 (.inl (b3 k h).1)
    · subst h; exact (hTT _).2 (.inl b2)
  · cases hk
    refine ⟨?_, hgH⟩
    rcases hgw with h | h
    · exact .inl (b3 g h).1
    · exact .inr ⟨h, by omega⟩
  · rcases hk with h | h
    · exact ⟨(b4 k h).1, by have := (b4 k h).2; omega⟩
    · exact ⟨by omega, h.2⟩
  · refine ⟨⟨cs ++ tcs, by rw [List.length_append]; simpa [hxn] using hf, DsAt.append ?_ ?_⟩, rfl, fun k hk h => h.2.2 hk, fun k hk => ?_⟩
    · refine DsAt.mono (fun k hk => ⟨.inl hk.1, hk.2.1, fun e => ?_⟩) _ _ (DsAt.agree (hmW.agree (fun k hk => ⟨(b4 k hk.1).2, fun h => ?_⟩)) _ _ hcs)
      · rcases h with h | h | h
        · have := (b4 k hk.1).1; omega
        · exact hk.2.2 h
        · exact hk.2.1 h
      · cases e
        rcases hgw with h | h
        · exact hk.2.2 h
        · have := (b4 g hk.1).2; omega
    · rw [DsAt]
      refine ⟨tcs, [], by simp, ?_, by rw [DsAt]⟩
      refine DAt.mono (fun k hk => ⟨.inr ⟨hk.1, by omega⟩, by omega, fun e => ?_⟩) _ _ (DAt.agree (fun k hk => ?_) _ _ ht)
      · rw [hmf.block k (by omega) (fun h => ?_), hm7.block k hk.2 (fun h => ?_)]
        · have := (b4 k (b3 k h).1).2; omega
        · rcases h with h | h
          · rcases hg with h' | h'
            · have := (b4 g (b3 g h').1).2; omega
            · omega
          · omega
      · cases e
        rcases hg with h | h
        · have := (b4 g (b3 g h).1).2; omega
        · omega
    · rcases hk.1 with h | h
      · have := (b4 k h).2; omega
      · exact h.2
end Go.Chalk
