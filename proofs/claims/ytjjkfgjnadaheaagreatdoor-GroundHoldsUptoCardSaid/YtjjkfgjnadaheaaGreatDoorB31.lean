/- Joined texts: TypC, TypD, TypE, TypF, TypG, TypH, EvA. -/
import Derived.Test.YtjjkfgjnadaheaaGreatDoorB30
import Derived.Deep.RegionWith

/- types: walk at comparisons and atoms. -/
namespace Go.Chalk
open Go.RowKit
theorem sorts_two (a : List Bnd) (t u : Trm) : sortsF a none [t, u] = if (sortF a t).2 ≠ 0 then ([], (sortF a t).2) else if (sortF a u).2 ≠ 0 then ([], (sortF a u).2) else ([(sortF a t).1, (sortF a u).1], 0) := by
  unfold sortsF
  rw [sortsGo]
  split
  · rfl
  · rw [if_neg (by simp [badWant]), sortsGo]
    split
    · rfl
    · rw [if_neg (by simp [badWant]), sortsGo]; rfl
theorem sorts_asks (a : List Bnd) (kind : Int) (t u : Trm) : (sortsF a (some [(asksF kind).1, (asksF kind).2]) [t, u]).2 = atomWalk a kind t u := by
  unfold sortsF atomWalk
  rw [sortsGo]
  by_cases h1 : (sortF a t).2 ≠ 0
  · rw [if_pos h1, if_pos h1]
  · rw [if_neg h1, if_neg h1]
    by_cases h2 : (sortF a t).1 ≠ (asksF kind).1
    · rw [if_pos (by unfold badWant; simp; exact fun h => h2 h.symm), if_pos h2]
    · rw [if_neg (by unfold badWant; simp at h2 ⊢; exact h2.symm), if_neg h2, sortsGo]
      by_cases h3 : (sortF a u).2 ≠ 0
      · rw [if_pos h3, if_pos h3]
      · rw [if_neg h3, if_neg h3]
        by_cases h4 : (sortF a u).1 ≠ (asksF kind).2
        · rw [if_pos (by unfold badWant; simp; exact fun h => h4 h.symm), if_pos h4]
        · rw [if_neg (by unfold badWant; simp at h4 ⊢; exact h4.symm), if_neg h4, sortsGo]
theorem formed_atom2 {kind : Int} {name : Bs} {n : Int} {terms : List Trm} {binds : List Bnd} {l : List Frm} (h : formedF (.mk kind name n terms binds l) = true) (hk : atomK kind = true) : ∃ t u, terms = [t, u] /\ (∀ x ∈ terms, 1 <= x.kind /\ x.kind <= 7) := by
  rw [formedF_mk, Bool.and_eq_true] at h
  have h2 := h.2
  split at h2
  · cases h2
  · rw [Bool.and_eq_true, decide_eq_true_eq] at h2
    match terms, h2.1 with
    | [t, u], _ =>
      refine ⟨t, u, rfl, fun x hx => ?_⟩
      have := List.all_eq_true.1 h2.2 x hx
      rw [Bool.and_eq_true] at this
      have h3 := this.1
      unfold termedF at h3
      split at h3
      · rename_i he; omega
      · simp only [Bool.and_eq_true, decide_eq_true_eq] at h3; omega
theorem formed_plain {kind : Int} {name : Bs} {n : Int} {terms : List Trm} {binds : List Bnd} {l : List Frm} (h : formedF (.mk kind name n terms binds l) = true) (hk : atomK kind = false) : terms = [] /\ binds.length <= 6 := by
  rw [formedF_mk, Bool.and_eq_true, partsOk_mk] at h
  have h1 := h.1
  simp only [hk, Bool.or_false, Bool.and_eq_true, List.isEmpty_iff] at h1
  refine ⟨h1.1.1.1.2, ?_⟩
  have h2 := h.2
  split at h2
  · cases h2
  · rw [if_neg (by rw [hk]; simp)] at h2
    cases hq : quantK kind
    · rw [hq] at h1
      have := h1.1.1.2
      simp at this
      subst this; simp
    · rw [if_pos hq] at h2
      simp only [Bool.and_eq_true, decide_eq_true_eq] at h2
      exact h2.1.1.2
end Go.Chalk
namespace Go.Proofs.YtjjkfgjnadaheaaGreatDoor
open Go.RowKit Go.Chalk
theorem clip_any (a : Option Addr) (n cap : Nat) (hn : n <= cap) (hc : cap <= maxLen) (w : World) : Calls Tryz.prog 175 #[.slice a n cap] w fun e w' => e = .returned (.slice a n n) /\ w = w' := by
  go_enter Tryz.func175, Tryz.ntmps175
  go_wp2_with fail
  go_ret
  exact ⟨rfl, rfl⟩

set_option maxRecDepth 100000 in
set_option maxHeartbeats 1000000 in
theorem walk_atom (a : List Bnd) (x : SlA) (kind : Int) (name : Bs) (n : Int) (terms : List Trm) (binds : List Bnd) (fl : List Frm) (y : FrmA) (w : World) (hx : SlIn w (· < w.heap.size) (a.map Bnd.toD) x) (hy : SlIn w (· < w.heap.size) (terms.map Trm.toD) y.t) (hl : a.length <= 2000000)
    (hf : formedF (.mk kind name n terms binds fl) = true) (hk : 3 <= kind /\ kind <= 8) (hg : GG w) :
    Calls Tryz.prog 102 #[.slice x.a a.length x.cap, ndV (.mk kind name n terms binds fl, y)] w fun e w' => e = .returned (.int .i64 (walkF a (.mk kind name n terms binds fl))) /\ Below w.heap.size w w' := by
  have hak : atomK kind = true := by unfold atomK; simp; omega
  obtain ⟨t, u, ht, htk⟩ := formed_atom2 hf hak
  have hba : Below w.heap.size w (w.alloc (.cells (y.cells (.mk kind name n terms binds fl)).toArray 34)) := (Below.refl _ _).alloc (Nat.le_refl _) _
  obtain ⟨k, hkk⟩ : ∃ k : Nat, (k : Int) = kind := ⟨kind.toNat, by omega⟩
  have hwf : walkF a (.mk kind name n terms binds fl) = atomWalk a kind t u := by rw [ht, walkF_two, if_neg (by omega)]
  subst ht
  have hss := fun (W : World) (hW : Below w.heap.size w W) => (by
    have hak2 := (hg.below hW).asks k (by omega)
    rw [hkk] at hak2
    have := sorts_want a x [t, u] y.t [(asksF kind).1, (asksF kind).2] 4 (k * 2) 2 W (hx.later hW hW.size) (hy.later hW hW.size) hl (by simp) htk rfl (World.block_lt_of_cell? _ _ hak2.1) (fun i hi => by
      match i, hi with
      | 0, _ => exact hak2.1
      | 1, _ => exact hak2.2) (hg.below hW)
    rw [sorts_asks] at this
    exact this : Calls Tryz.prog 173 #[.slice y.t.a 2 y.t.cap, .func (.func 169) #[.slice x.a a.length x.cap] #[], .slice (some ⟨4, k * 2, none⟩) 2 2] W fun e w' => ∃ v, e = .returned (.tuple #[v, .int .i64 (atomWalk a kind t u)]) /\ Onto1 w' W.heap.size (fun _ => False) 3 1 v (dints (sortsF a (some [(asksF kind).1, (asksF kind).2]) [t, u]).1) /\ Below W.heap.size W w')
  rw [hwf]
  have HSS := Lib.hid hss
  have HB := Lib.hid hba
  have hmf : ∀ (fn : Fn) (first cap : Array Value) (w : World), (Instr.makeFunc fn first cap).run Tryz.prog w = .ok (.func fn first cap) w := fun _ _ _ _ => rfl
  clear hss hwf hx hy hg hba hak hf htk
  generalize atomWalk a kind t u = res at HSS ⊢
  have h9 : (kind == 9) = false := by simp; omega
  have hk9 : (kind : Int) < 9 := by omega
  subst hkk
  simp only [ndV, FrmA.cells, SlA.val, Frm.kind, Frm.name, Frm.n, Frm.terms, Frm.binds, Frm.l, List.length_cons, List.length_nil, Nat.zero_add, Nat.reduceAdd] at *
  go_enter Tryz.func102, Tryz.ntmps102
  go_wp2_with fail
  have HSS1 := Lib.hid (HSS.out _ HB.out.drew)
  go_region_with (go_at_call 173; refine HSS1.out.mono ?_; rintro e w' ⟨v, rfl, hon, hb⟩; have HW := Lib.hid hb; clear hb hon)
  all_goals
    go_wp2_with fail
    go_ret
    exact ⟨rfl, HB.out.drew.trans (HW.out.mono (by simp))⟩
end Go.Proofs.YtjjkfgjnadaheaaGreatDoor
/- types: walk at comparisons. -/
namespace Go.Chalk
open Go.RowKit
def ordB (s : Int) (name : Bs) : Bool := ([8, 2, 6] : List Int).contains s || name == [61] || name == [33, 61]
theorem cmpWalk_ok {a : List Bnd} {name : Bs} {t u : Trm} (h1 : (sortF a t).2 = 0) (h2 : (sortF a u).2 = 0) {s1 s2 : Int} (e1 : (sortF a t).1 = s1) (e2 : (sortF a u).1 = s2) : cmpWalk a name t u = if (s1 != s2 || !(ordB s1 name)) = true then 80 else 0 := by
  unfold cmpWalk ordB
  rw [if_neg (by rw [h1]; simp), if_neg (by rw [h2]; simp), e1, e2]
  congr 1
  simp
  constructor
  · rintro (h | h)
    · exact .inl h
    · exact .inr ⟨⟨⟨h.1, h.2.1, h.2.2.1⟩, h.2.2.2.1⟩, h.2.2.2.2⟩
  · rintro (h | ⟨⟨⟨a, b, c⟩, d⟩, e⟩)
    · exact .inl h
    · exact .inr ⟨a, b, c, d, e⟩
end Go.Chalk
namespace Go.Proofs.YtjjkfgjnadaheaaGreatDoor
open Go.RowKit Go.Chalk
set_option maxRecDepth 100000 in
set_option maxHeartbeats 1000000 in
theorem walk_cmp (a : List Bnd) (x : SlA) (name : Bs) (n : Int) (terms : List Trm) (binds : List Bnd) (fl : List Frm) (y : FrmA) (w : World) (hx : SlIn w (· < w.heap.size) (a.map Bnd.toD) x) (hy : SlIn w (· < w.heap.size) (terms.map Trm.toD) y.t) (hl : a.length <= 2000000)
    (hf : formedF (.mk 9 name n terms binds fl) = true) (hg : GG w) :
    Calls Tryz.prog 102 #[.slice x.a a.length x.cap, ndV (.mk 9 name n terms binds fl, y)] w fun e w' => e = .returned (.int .i64 (walkF a (.mk 9 name n terms binds fl))) /\ Below w.heap.size w w' := by
  obtain ⟨t, u, ht, htk⟩ := formed_atom2 hf (by decide)
  have hba : Below w.heap.size w (w.alloc (.cells (y.cells (.mk 9 name n terms binds fl)).toArray 34)) := (Below.refl _ _).alloc (Nat.le_refl _) _
  have hwf : walkF a (.mk 9 name n terms binds fl) = cmpWalk a name t u := by rw [ht, walkF_two, if_pos rfl]
  subst ht
  have hss := sorts_nil a x [t, u] y.t _ (hx.later hba hba.size) (hy.later hba hba.size) hl (by simp) htk (hg.below hba)
  rw [sorts_two] at hss
  obtain ⟨s1, hs1⟩ : ∃ s1, (sortF a t).1 = s1 := ⟨_, rfl⟩
  obtain ⟨s2, hs2⟩ : ∃ s2, (sortF a u).1 = s2 := ⟨_, rfl⟩
  obtain ⟨c1, hc1⟩ : ∃ c1, (sortF a t).2 = c1 := ⟨_, rfl⟩
  obtain ⟨c2, hc2⟩ : ∃ c2, (sortF a u).2 = c2 := ⟨_, rfl⟩
  rw [hs1, hs2, hc1, hc2] at hss
  have HB := Lib.hid hba
  have hmf : ∀ (fn : Fn) (first cap : Array Value) (w : World), (Instr.makeFunc fn first cap).run Tryz.prog w = .ok (.func fn first cap) w := fun _ _ _ _ => rfl
  rw [hwf]
  have HG := Lib.hid hg
  clear hwf hx hy hg hf htk
  simp only [ndV, FrmA.cells, SlA.val, Frm.kind, Frm.name, Frm.n, Frm.terms, Frm.binds, Frm.l, List.length_cons, List.length_nil, Nat.zero_add, Nat.reduceAdd] at hss hba HB ⊢
  by_cases h1 : c1 ≠ 0
  · rw [if_pos h1] at hss
    have he : cmpWalk a name t u = c1 := by unfold cmpWalk; rw [hc1, if_pos h1]
    rw [he]
    have HSS := Lib.hid hss
    have h1' : (c1 != 0) = true := by simpa using h1
    have HD := Lib.hid h1
    clear hss hba he hs1 hs2 hc1 hc2 h1
    go_enter Tryz.func102, Tryz.ntmps102
    go_wp2_with fail
    refine HSS.out.mono ?_
    rintro e w1 ⟨v, rfl, hon, hb⟩
    have HW := Lib.hid hb
    clear hb hon
    go_wp2_with fail
    go_ret
    exact ⟨rfl, HB.out.trans (HW.out.mono HB.out.size)⟩
  · rw [if_neg h1] at hss
    have h1z : c1 = 0 := by omega
    by_cases h2 : c2 ≠ 0
    · rw [if_pos h2] at hss
      have he : cmpWalk a name t u = c2 := by unfold cmpWalk; rw [hc1, if_neg h1, hc2, if_pos h2]
      rw [he]
      have HSS := Lib.hid hss
      have h2' : (c2 != 0) = true := by simpa using h2
      clear hss hba he hs1 hs2 hc1 hc2 h1 h1z h2
      go_enter Tryz.func102, Tryz.ntmps102
      go_wp2_with fail
      refine HSS.out.mono ?_
      rintro e w1 ⟨v, rfl, hon, hb⟩
      have HW := Lib.hid hb
      clear hb hon
      go_wp2_with fail
      go_ret
      exact ⟨rfl, HB.out.trans (HW.out.mono HB.out.size)⟩
    · rw [if_neg h2] at hss
      have he := cmpWalk_ok (name := name) (hc1.trans h1z) (hc2.trans (by omega)) hs1 hs2
      rw [he]
      have HSS := Lib.hid hss
      obtain ⟨od, hod⟩ : ∃ od, od = ordB s1 name := ⟨_, rfl⟩
      rw [<- hod]
      have HO := Lib.hid hod
      obtain ⟨rv, hrv⟩ : ∃ rv, rv = (if (s1 != s2 || !od) = true then (80 : Int) else 0) := ⟨_, rfl⟩
      rw [<- hrv]
      have HRV := Lib.hid hrv
      clear hrv
      clear hss hba he hs1 hs2 hc1 hc2 h1 h1z h2 hod
      go_enter Tryz.func102, Tryz.ntmps102
      go_wp2_with fail
      refine HSS.out.mono ?_
      rintro e w1 ⟨v, rfl, hon, hb⟩
      have HW := Lib.hid (HB.out.trans (hb.mono HB.out.size))
      obtain ⟨x0, rfl, hx0⟩ := hon.sl (by rw [dints_widths]; simp)
      obtain ⟨k1, _, _, _, k5⟩ := hx0.ints
      obtain ⟨ka, _⟩ := k1 (by simp)
      have q0 := k5 0 (by simp)
      have q1 := k5 1 (by simp)
      simp only [List.getElem_cons_zero, List.getElem_cons_succ, Nat.add_zero] at q0 q1
      simp only [dints_length, List.length_cons, List.length_nil, Nat.zero_add, Nat.reduceAdd, SlA.val]
      rw [ka]
      have hbx : w1.heap[w.heap.size]? = some (.cells #[.int .i64 9, .string ⟨name.toArray⟩, .int .i64 n, .slice y.t.a 2 y.t.cap, .slice y.b.a binds.length y.b.cap, .slice y.l.a fl.length y.l.cap] 34 (0, 0)) := boxed (B := w.heap.size + 1) (by simpa using hb) (by omega)
      have b1 : w1.cell? ⟨w.heap.size, 1, none⟩ = some (.string ⟨name.toArray⟩) := cell_of_heap hbx rfl
      clear hb hon hx0 k1 k5 ka hbx
      have hc := contains_ints [8, 2, 6] ⟨some ⟨w1.heap.size, 0, none⟩, w1.heap.size, 0, 3⟩ s1 (w1.alloc (.cells #[.int .i64 8, .int .i64 2, .int .i64 6] 3))
        (SlIn.lit (cs := [.int .i64 8, .int .i64 2, .int .i64 6]) (boxed (B := w1.heap.size + 1) (Below.refl _ _) (by omega)) (DsAt.ints (xs := [8, 2, 6]) (fun z hz => by simp at hz; omega)) (by simp) (Nat.le_refl _) (by decide)) (by simp)
      have hoo := HO.out
      unfold ordB at hoo
      clear HO
      generalize ([8, 2, 6] : List Int).contains s1 = c0 at hc hoo
      have HC := Lib.hid hc
      have HBB := Lib.hid (HW.out.alloc HW.out.size (.cells #[.int .i64 8, .int .i64 2, .int .i64 6] 3))
      have b1' := cell_alloc (x := .cells #[.int .i64 8, .int .i64 2, .int .i64 6] 3) b1
      have hcase : (c0 = true /\ od = true) ∨ (c0 = false /\ name = [61] /\ od = true) ∨ (c0 = false /\ name = [33, 61] /\ od = true) ∨ (c0 = false /\ (name == [61]) = false /\ (name == [33, 61]) = false /\ od = false) := by
        cases c0
        · by_cases h1 : name = [61]
          · exact .inr (.inl ⟨rfl, h1, by rw [hoo, h1]; rfl⟩)
          · by_cases h2 : name = [33, 61]
            · exact .inr (.inr (.inl ⟨rfl, h2, by rw [hoo, h2]; rfl⟩))
            · have e1 : (name == [61]) = false := by simpa using h1
              have e2 : (name == [33, 61]) = false := by simpa using h2
              exact .inr (.inr (.inr ⟨rfl, e1, e2, by rw [hoo, e1, e2]; rfl⟩))
        · exact .inl ⟨rfl, by rw [hoo]; rfl⟩
      have hd : (s1 != s2) = true ∨ (s1 != s2) = false := by cases (s1 != s2) <;> simp
      clear hc hoo
      rcases hcase with ⟨rfl, rfl⟩ | ⟨rfl, rfl, rfl⟩ | ⟨rfl, rfl, rfl⟩ | ⟨rfl, hn1, hn2, rfl⟩
      all_goals
        rcases hd with hd | hd
        all_goals
          have HDD := Lib.hid hd
          try (obtain rfl := int_eq hd; clear hd)
          go_wp2_with fail
          refine HC.out.mono ?_
          rintro e w2 ⟨rfl, rfl⟩
          go_wp2_with fail
          go_quiet (fail)
          go_wp2_with fail
          go_ret
          exact ⟨ret_int (by rw [HRV.out, HDD.out]; rfl), HBB.out.trans ⟨rfl, rfl, rfl, Nat.le_refl _, fun _ _ => rfl⟩⟩
end Go.Proofs.YtjjkfgjnadaheaaGreatDoor
/- types: walk. -/
namespace Go.Chalk
open Go.RowKit
theorem bindAll_some {bs : List Bnd} {b : Bnd} {r l : List Bnd} (hl : l = b :: r) {i : Nat} (h : findB bs b.name = some i) : bindAll bs l = none := by
  subst hl; rw [bindAll, if_pos (by rw [h]; rfl)]
theorem bindAll_none {bs : List Bnd} {b : Bnd} {r l : List Bnd} (hl : l = b :: r) (h : findB bs b.name = none) : bindAll bs l = bindAll (bs ++ [b]) r := by
  subst hl; rw [bindAll, if_neg (by rw [h]; simp)]
theorem walkL_bad {bs : List Bnd} {f : Frm} {r l : List Frm} (hl : l = f :: r) {c : Int} (h : walkF bs f = c) (hc : c ≠ 0) : walkL bs l = c := by
  subst hl; rw [walkL, h, if_pos hc]
theorem walkL_good {bs : List Bnd} {f : Frm} {r l : List Frm} (hl : l = f :: r) (h : walkF bs f = 0) : walkL bs l = walkL bs r := by
  subst hl; rw [walkL, h, if_neg (by simp)]
theorem nodes_child {kind : Int} {name : Bs} {n : Int} {terms : List Trm} {binds : List Bnd} {fl : List Frm} (h : (nodesF (.mk kind name n terms binds fl)).all formedF = true) (j : Nat) (hj : j < fl.length) : (nodesF fl[j]).all formedF = true := by
  rw [nodesF, List.all_cons, Bool.and_eq_true] at h
  have : ∀ (l : List Frm), (nodesL l).all formedF = true -> ∀ g ∈ l, (nodesF g).all formedF = true := by
    intro l
    induction l with
    | nil => intro _ g hg; cases hg
    | cons x r ih =>
      intro hl g hg
      rw [nodesL, List.all_append, Bool.and_eq_true] at hl
      rcases List.mem_cons.1 hg with rfl | hg
      · exact hl.1
      · exact ih hl.2 g hg
  exact this fl h.2 _ (List.getElem_mem hj)
end Go.Chalk
namespace Go.Proofs.YtjjkfgjnadaheaaGreatDoor
open Go.RowKit Go.Chalk
set_option maxRecDepth 100000 in
set_option maxHeartbeats 2000000 in
theorem walk_plain (kind : Int) (name : Bs) (n : Int) (binds : List Bnd) (fl : List Frm)
    (ih : ∀ (j : Nat) (hj : j < fl.length) (a : List Bnd) (x : SlA) (y : FrmA) (w : World), SlIn w (· < w.heap.size) (a.map Bnd.toD) x -> FrmIn w (· < w.heap.size) fl[j] y -> a.length + 6 * fl[j].depth <= 1900000 -> GG w ->
      Calls Tryz.prog 102 #[.slice x.a a.length x.cap, ndV (fl[j], y)] w fun e w' => e = .returned (.int .i64 (walkF a fl[j])) /\ Below w.heap.size w w')
    (a : List Bnd) (x : SlA) (y : FrmA) (w : World) (hx : SlIn w (· < w.heap.size) (a.map Bnd.toD) x) (hy : FrmIn w (· < w.heap.size) (.mk kind name n [] binds fl) y) (hl : a.length + 6 * (fdepths fl + 1) <= 1900000) (hb6 : binds.length <= 6) (hfl : fl.length <= 2000000) (h9 : (kind == 9) = false) (hg : GG w) :
    Calls Tryz.prog 102 #[.slice x.a a.length x.cap, ndV (.mk kind name n [] binds fl, y)] w fun e w' => e = .returned (.int .i64 (walkF a (.mk kind name n [] binds fl))) /\ Below w.heap.size w w' := by
  have hba : Below w.heap.size w (w.alloc (.cells (y.cells (.mk kind name n [] binds fl)).toArray 34)) := (Below.refl _ _).alloc (Nat.le_refl _) _
  have hcap : a.length <= x.cap := by have := hx.le; simpa using this
  have hcm := hx.max
  obtain ⟨g1, _, _, g4, g5⟩ := hy.binds.flat Bnd.flatT
  have hnil : x.a = none -> a.map Bnd.toD = [] := fun hn => by
    cases ha : a with
    | nil => rfl
    | cons b r => have := (hx.at_ (by rw [ha]; simp)).1; rw [this] at hn; cases hn
  have hsl : SlIn w (· < w.heap.size) (a.map Bnd.toD) ⟨x.a, x.b, x.o, a.length⟩ := ⟨hx.at_, by simp, by show a.length <= maxLen; omega, hx.row⟩
  have hon : Onto1 (w.alloc (.cells (y.cells (.mk kind name n [] binds fl)).toArray 34)) (w.heap.size + 1) (fun _ => False) 149 2 (.slice x.a a.length a.length) (a.map Bnd.toD) :=
    .inl ⟨⟨x.a, x.b, x.o, a.length⟩, by simp, by simp, (hsl.agree (agree_of_below hba)).mono (fun k hk => Nat.lt_succ_of_lt hk), hnil, flats_map Bnd.flatT a, by simp, fun _ h => h.elim⟩
  have HC := Lib.hid g4
  have HFN := Lib.hid g5
  have HFI : Hid (∀ (j : Nat) (hj : j < fl.length), ∃ y1 : FrmA, FrmIn w (· < w.heap.size) fl[j] y1 /\ CellsAt w y.l.b (y.l.o + j * 6) (y1.cells fl[j])) := Lib.hid (fun (j : Nat) (hj : j < fl.length) => hy.l.frm j hj)
  have HFS := Lib.hid hy.l.at_
  have HIH := Lib.hid ih
  have HG := Lib.hid hg
  have HW := Lib.hid (walkF_nil a kind name n binds fl)
  have HB := Lib.hid hba
  have HON := Lib.hid hon
  have HG1 := Lib.hid g1
  obtain ⟨i0, hi, hz0, hz1, hz2⟩ := info_parts infoBnd
  clear hx hy g1 g4 g5 ih hg hba hon hnil hsl
  simp only [ndV, FrmA.cells, SlA.val, Frm.kind, Frm.name, Frm.n, Frm.terms, Frm.binds, Frm.l, List.length_nil] at HC HFN HG1 HFS HB HON ⊢
  generalize walkF a (.mk kind name n [] binds fl) = res at HW ⊢
  go_enter Tryz.func102, Tryz.ntmps102
  go_wp2_with (go_at_call 175; refine (clip_any _ _ _ hcap hcm _).mono ?_; rintro e w' ⟨rfl, rfl⟩)
  go_loopw [10, 80] (fun v i wr => ∃ (j : Nat) (bs : List Bnd), j <= binds.length /\ i = .int .i64 j /\ Below w.heap.size w wr /\ Hid (wr.heap[w.heap.size]? = some (.cells #[.int .i64 kind, .string ⟨name.toArray⟩, .int .i64 n, .slice y.t.a 0 y.t.cap, .slice y.b.a binds.length y.b.cap, .slice y.l.a fl.length y.l.cap] 34 (0, 0))) /\ Hid (Onto1 wr (w.heap.size + 1) (fun _ => False) 149 2 v (bs.map Bnd.toD)) /\ Hid (bs.length = a.length + j /\ bindAll a binds = bindAll bs (binds.drop j))) (fun _ i _ => binds.length - (intOf i).toNat)
  case atStart => exact ⟨0, a, Nat.zero_le _, rfl, HB.out, Lib.hid (boxed (B := w.heap.size + 1) (Below.refl _ _) (by omega)), HON, Lib.hid ⟨rfl, rfl⟩⟩
  case round =>
    obtain ⟨j, bs, hj, rfl, hb, HBX, HO, HE⟩ := hrel
    clear HON
    obtain ⟨x1, hv, hx1⟩ := HO.out.sl (by rw [widths_map Bnd.flatT, List.length_map])
    rw [List.length_map] at hv
    subst hv
    have hbl : bs.length <= 1900000 := by have := HE.out.1; omega
    have HX1 := Lib.hid hx1
    clear hx1
    by_cases hlt : j < binds.length
    · obtain ⟨hxa, hbl2⟩ := HG1.out (by omega)
      obtain ⟨q0, q1⟩ := HC.out.two j hlt rfl
      have e0 := (hb.cell (p := ⟨y.b.b, y.b.o + j * 2, none⟩) hbl2).trans q0
      have e1 := (hb.cell (p := ⟨y.b.b, y.b.o + j * 2 + 1, none⟩) hbl2).trans q1
      have hba : Below w.heap.size w (wr.alloc (.cells #[.string ⟨binds[j].name.toArray⟩, .int .i64 binds[j].sort] 149)) := hb.alloc hb.size _
      have hbr : Below wr.heap.size wr (wr.alloc (.cells #[.string ⟨binds[j].name.toArray⟩, .int .i64 binds[j].sort] 149)) := (Below.refl _ _).alloc (Nat.le_refl _) _
      have HFD := Lib.hid (find_any bs x1 binds[j].name _ (HX1.out.later hbr hbr.size) (by omega))
      have HO1 := Lib.hid (HO.out.below hbr)
      have HFINE := Lib.hid (HFN.out _ (List.getElem_mem hlt))
      have hdrop : binds.drop j = binds[j] :: binds.drop (j + 1) := List.drop_eq_getElem_cons hlt
      have HDR := Lib.hid hdrop
      have HBA := Lib.hid hba
      rw [hxa] at HBX ⊢
      clear q0 q1 hba hbr hdrop
      generalize hbe : binds[j] = be at HFD HO1 HFINE HDR HBA e0 e1
      clear hbe
      obtain ⟨nm, so⟩ := be
      simp only at HFD HO1 HBA e0 e1
      cases hf : findB bs nm with
      | some i =>
        have hfi : findI bs nm = i := by unfold findI; rw [hf]
        rw [hfi] at HFD
        have HR : Hid (res = 82) := Lib.hid (by rw [HW.out, HE.out.2, bindAll_some HDR.out hf])
        clear hf hfi
        go_wp2_with fail
        refine HFD.out.mono ?_
        rintro e w1 ⟨rfl, hb1⟩
        have HB1 := Lib.hid (HBA.out.trans (hb1.mono HBA.out.size))
        clear hb1
        go_wp2_with fail
        go_ret
        exact ⟨ret_int HR.out.symm, HB1.out⟩
      | none =>
        have hfi : findI bs nm = -1 := by unfold findI; rw [hf]
        rw [hfi] at HFD
        have HR := Lib.hid (HE.out.2.trans (bindAll_none HDR.out hf))
        clear hf hfi
        go_wp2_with fail
        refine HFD.out.mono ?_
        rintro e w1 ⟨rfl, hb1⟩
        have HB1 := Lib.hid (HBA.out.trans (hb1.mono HBA.out.size))
        have q0 : w1.cell? ⟨wr.heap.size, 0, none⟩ = some (.string ⟨nm.toArray⟩) := cell_of_heap (boxed (B := wr.heap.size + 1) (by simpa using hb1) (by omega)) rfl
        have q1 : w1.cell? ⟨wr.heap.size, 1, none⟩ = some (.int .i64 so) := cell_of_heap (boxed (B := wr.heap.size + 1) (by simpa using hb1) (by omega)) rfl
        have HO2 := Lib.hid (HO1.out.below hb1)
        have hlw := (Array.getElem?_eq_some_iff.1 HBX.out).1
        have HBX1 := Lib.hid ((hb1.block w.heap.size (by simp; omega)).trans ((Below.heap_alloc _ _ _ hlw).trans HBX.out))
        clear hb1
        go_wp2_with (at_builtin; go_must (refine wpList_append_one rfl _ _ 165 rfl 149 i0 _ 2 24 Tryz.underlying165 hi hz0 hz1 hz2 rfl (by decide) (.slice x1.a bs.length x1.cap) (bs.map Bnd.toD) (Bnd.toD ⟨nm, so⟩) [.string ⟨nm.toArray⟩, .int .i64 so] 149 rfl rfl HO2.out (DsAt.flat1 (Bnd.flatT.flat _) HFINE.out) (by have := (Array.getElem?_eq_some_iff.1 HBX1.out).1; omega) rfl (by rw [widths_map Bnd.flatT, List.length_map]) (by rw [List.length_map]; unfold maxLen; omega) (by rw [List.length_map]; omega) ?_); intro ao cap w5 hon hb5; have HON := Lib.hid (And.intro hon (And.intro (HB1.out.trans (hb5.mono (by omega))) ((hb5.block _ (by omega)).trans HBX1.out))); clear hon hb5)
        refine ⟨⟨j + 1, bs ++ [⟨nm, so⟩], by omega, by go_num, HON.out.2.1, Lib.hid HON.out.2.2, Lib.hid ?_, Lib.hid ⟨by have := HE.out.1; simp; omega, HR.out⟩⟩, by simp [intOf]; omega⟩
        have := HON.out.1
        rw [List.length_map] at this
        simpa using this
    · have hjb : j = binds.length := by omega
      obtain ⟨wo, rfl⟩ : ∃ wo, wo = wr := ⟨_, rfl⟩
      have HR : Hid (res = walkL bs fl) := Lib.hid (by rw [HW.out, HE.out.2, hjb, List.drop_length, bindAll])
      have hdep : bs.length + 6 * fdepths fl <= 1900000 := by have := HE.out.1; omega
      have HBR := Lib.hid hb
      have HXW := Lib.hid (fun (W : World) (hW : Below wo.heap.size wo W) => HX1.out.later hW hW.size)
      have b5 : wo.cell? ⟨w.heap.size, 5, none⟩ = some (.slice y.l.a fl.length y.l.cap) := cell_of_heap HBX.out rfl
      clear HC HFN HG1 HO HE HB HBX hjb
      go_wp2_with fail
      go_loopw [97] (fun i wr => ∃ j2 : Nat, j2 <= fl.length /\ i = .int .i64 j2 /\ Below wo.heap.size wo wr /\ Hid (walkL bs fl = walkL bs (fl.drop j2))) (fun i _ => fl.length - (intOf i).toNat)
      case atStart => exact ⟨0, Nat.zero_le _, rfl, Below.refl _ _, Lib.hid rfl⟩
      case round =>
        obtain ⟨j2, hj2, rfl, hb2, HE2⟩ := hrel
        by_cases hlt2 : j2 < fl.length
        · obtain ⟨y1, hy1, hy2⟩ := HFI.out j2 hlt2
          obtain ⟨hxa, hFb⟩ := HFS.out (by rw [List.length_map]; omega)
          have hbw : Below w.heap.size w wr := HBR.out.trans (hb2.mono HBR.out.size)
          obtain ⟨e0, e1, e2, e3, e4, e5⟩ := (hy2.agree (agree_of_below hbw) hFb).six
          have hbr : Below wo.heap.size wo (wr.alloc (.cells (y1.cells fl[j2]).toArray 34)) := hb2.alloc hb2.size _
          have hbw2 : Below w.heap.size w (wr.alloc (.cells (y1.cells fl[j2]).toArray 34)) := hbw.alloc hbw.size _
          have hdp := depth_le_fdepths fl j2 hlt2
          have HCL := Lib.hid (HIH.out j2 hlt2 bs x1 y1 (wr.alloc (.cells (y1.cells fl[j2]).toArray 34)) (HXW.out _ hbr) (hy1.later hbw2 hbw2.size) (by omega) (HG.out.below hbw2))
          have HBR2 := Lib.hid hbr
          have hdrop : fl.drop j2 = fl[j2] :: fl.drop (j2 + 1) := List.drop_eq_getElem_cons hlt2
          have HDR := Lib.hid hdrop
          obtain ⟨c, hc⟩ : ∃ c, walkF bs fl[j2] = c := ⟨_, rfl⟩
          rw [hc] at HCL
          have HCC := Lib.hid hc
          rw [hxa]
          clear hy1 hy2 hFb hbw hbr hbw2 hdrop hc hdp
          generalize fl[j2] = fe at HCL HBR2 HDR HCC e0 e1 e2 e3 e4 e5
          obtain ⟨kind1, name1, n1, terms1, binds1, fl1⟩ := fe
          simp only [ndV, FrmA.cells, SlA.val, Frm.kind, Frm.name, Frm.n, Frm.terms, Frm.binds, Frm.l] at HCL HBR2 e0 e1 e2 e3 e4 e5
          have hcd : (c ≠ 0 /\ (c != 0) = true) ∨ (c = 0 /\ (c != 0) = false) := by by_cases h : c = 0 <;> simp [h]
          rcases hcd with ⟨d1, d2⟩ | ⟨d1, d2⟩
          · have HD := Lib.hid (HR.out.trans (HE2.out.trans (walkL_bad HDR.out HCC.out d1)))
            clear d1
            go_wp2_with fail
            refine HCL.out.mono ?_
            rintro e w1 ⟨rfl, hb1⟩
            have HB1 := Lib.hid (HBR.out.trans ((HBR2.out.trans (hb1.mono HBR2.out.size)).mono HBR.out.size))
            clear hb1
            go_wp2_with fail
            go_ret
            exact ⟨ret_int HD.out.symm, HB1.out⟩
          · subst d1
            clear d2
            have HD := Lib.hid (HE2.out.trans (walkL_good HDR.out HCC.out))
            go_wp2_with fail
            refine HCL.out.mono ?_
            rintro e w1 ⟨rfl, hb1⟩
            have HB1 := Lib.hid (HBR2.out.trans (hb1.mono HBR2.out.size))
            clear hb1
            go_wp2_with fail
            exact ⟨⟨j2 + 1, by omega, by go_num, HB1.out, HD⟩, by simp [intOf]; omega⟩
        · go_wp2_with fail
          go_ret
          have hjl : j2 = fl.length := by omega
          exact ⟨ret_int (by rw [HR.out, HE2.out, hjl, List.drop_length, walkL]), HBR.out.trans (hb2.mono HBR.out.size)⟩

theorem awalk_any (m : Nat) : ∀ (f : Frm) (a : List Bnd) (x : SlA) (y : FrmA) (w : World), f.size <= m -> f.size <= 2000000 -> (nodesF f).all formedF = true -> SlIn w (· < w.heap.size) (a.map Bnd.toD) x -> FrmIn w (· < w.heap.size) f y -> a.length + 6 * f.depth <= 1900000 -> GG w ->
    Calls Tryz.prog 102 #[.slice x.a a.length x.cap, ndV (f, y)] w fun e w' => e = .returned (.int .i64 (walkF a f)) /\ Below w.heap.size w w' := by
  induction m with
  | zero => intro f _ _ _ _ h; have := f.size_pos; omega
  | succ m ih =>
    rintro ⟨kind, name, n, terms, binds, fl⟩ a x y w hm hs hf hx hy hd hg
    have hf1 : formedF (.mk kind name n terms binds fl) = true := by
      rw [nodesF, List.all_cons, Bool.and_eq_true] at hf; exact hf.1
    rw [Frm.size] at hm hs
    rw [Frm.depth] at hd
    have hll := length_le_fsizes fl
    cases hk : atomK kind
    · obtain ⟨ht, hb6⟩ := formed_plain hf1 hk
      subst ht
      have h9 : (kind == 9) = false := by
        unfold atomK at hk
        simp; intro h; subst h; simp at hk
      exact walk_plain kind name n binds fl (fun j hj a' x' y' w' h1 h2 h3 h4 => ih fl[j] a' x' y' w' (by have := size_le_fsizes fl j hj; omega) (by have := size_le_fsizes fl j hj; omega) (nodes_child hf j hj) h1 h2 h3 h4) a x y w hx hy hd hb6 (by omega) h9 hg
    · by_cases h9 : kind = 9
      · subst h9
        exact walk_cmp a x name n terms binds fl y w hx hy.terms (by omega) hf1 hg
      · exact walk_atom a x kind name n terms binds fl y w hx hy.terms (by omega) hf1 (by unfold atomK at hk; simp at hk; omega) hg
end Go.Proofs.YtjjkfgjnadaheaaGreatDoor
/- types: Term, Form. -/
namespace Go.Chalk
open Go.RowKit
theorem SlIn.lt {w : World} {xs : List D} {x : SlA} {B C : Nat} (h : SlIn w (· < B) xs x) (hC : B <= C) : SlIn w (· < C) xs x := h.mono (fun _ hk => Nat.lt_of_lt_of_le hk hC)
structure TrmFit (t : Trm) : Prop where
  kind : I64 t.kind
  name : t.name.length <= 4000000
  n : I64 t.n
theorem Trm.fine {t : Trm} (h : TrmFit t) : t.toD.fine := ⟨h.kind.wf, by rw [D.fine, bs_size]; have := h.name; unfold maxLen; omega, h.n.wf, trivial⟩
def termFrm (t : Trm) : Frm := .mk 9 [61] 0 [t, t] [] []
theorem termFrm_check (t : Trm) : (frmCheck (termFrm t) != 0) = !(termedF t) := by
  have h : (nodesF (termFrm t)).all formedF = termedF t := by
    have hp : partsOk (termFrm t) = true := by unfold termFrm; rw [partsOk_mk]; simp [arityF, atomK, quantK, countK]
    simp only [termFrm, nodesF, nodesL, List.append_nil, List.all_cons, List.all_nil, Bool.and_true]
    rw [formedF_mk, show partsOk (.mk 9 [61] 0 [t, t] [] []) = true from hp, Bool.true_and, if_neg (by decide), if_pos (by decide)]
    simp
  unfold frmCheck
  rw [h]
  cases hb : termedF t
  · rfl
  · rw [if_neg (by simp), if_neg (by simp [termFrm, Frm.size, fsizes, Frm.depth, fdepths])]; rfl
end Go.Chalk
namespace Go.Proofs.YtjjkfgjnadaheaaGreatDoor
open Go.RowKit Go.Chalk
set_option maxRecDepth 100000 in
set_option maxHeartbeats 1000000 in
theorem tform_any (env : List Bnd) (x : SlA) (f : Frm) (y : FrmA) (w : World) (hx : SlIn w (· < w.heap.size) (env.map Bnd.toD) x) (hy : FrmIn w (· < w.heap.size) f y) (hl : env.length <= 1500000) (hmax : ∀ b ∈ env, b.name.length <= 4000000) (hf : FrmFit f) (hg : GG w) :
    Calls Tryz.prog 53 #[.slice x.a env.length x.cap, ndV (f, y)] w fun e w' => e = .returned (.int .i64 (typForm env f)) /\ Below w.heap.size w w' := by
  have hba : Below w.heap.size w (w.alloc (.cells (y.cells f).toArray 34)) := (Below.refl _ _).alloc (Nat.le_refl _) _
  have hbx : (w.alloc (.cells (y.cells f).toArray 34)).heap[w.heap.size]? = some (.cells (y.cells f).toArray 34 (0, 0)) := boxed (B := w.heap.size + 1) (Below.refl _ _) (by omega)
  have HM := Lib.hid (amay_any env x _ (hx.later hba hba.size) (by omega) hmax (hg.below hba))
  have HCK := Lib.hid (fun (W : World) (hW : Below w.heap.size w W) => fcheck_any f y W (hy.later hW hW.size) hf (hg.below hW))
  have HWK := Lib.hid (fun (W : World) (hW : Below w.heap.size w W) (h : frmCheck f = 0) => awalk_any f.size f env x y W (Nat.le_refl _) hf.size (frmCheck_zero.1 h).1 (hx.later hW hW.size) (hy.later hW hW.size) (by have := (frmCheck_zero.1 h).2.2; omega) (hg.below hW))
  have HR : Hid (typForm env f = if mayA env = false then 1 else if frmCheck f ≠ 0 then frmCheck f else walkF env f) := Lib.hid rfl
  have HB := Lib.hid (And.intro hba hbx)
  clear hx hy hba hbx hmax hg hf
  generalize typForm env f = res at HR ⊢
  generalize frmCheck f = fc at HCK HWK HR
  generalize walkF env f = wk at HWK HR
  generalize mayA env = my at HM HR
  obtain ⟨kind, name, n, terms, binds, fl⟩ := f
  simp only [ndV, FrmA.cells, SlA.val, Frm.kind, Frm.name, Frm.n, Frm.terms, Frm.binds, Frm.l] at HB HCK HWK HM ⊢
  go_enter Tryz.func53, Tryz.ntmps53
  go_wp2_with fail
  refine HM.out.mono ?_
  rintro e w1 ⟨rfl, hb1⟩
  have hbx1 := (hb1.block w.heap.size (by simp)).trans HB.out.2
  have HB1 := Lib.hid (And.intro (HB.out.1.trans (hb1.mono HB.out.1.size)) hbx1)
  cases my
  · clear hb1 hbx1
    go_wp2_with fail
    go_ret
    exact ⟨ret_int (by rw [HR.out]; rfl), HB1.out.1⟩
  · have b0 : w1.cell? ⟨w.heap.size, 0, none⟩ = some (.int .i64 kind) := cell_of_heap hbx1 rfl
    have b1 : w1.cell? ⟨w.heap.size, 1, none⟩ = some (.string ⟨name.toArray⟩) := cell_of_heap hbx1 rfl
    have b2 : w1.cell? ⟨w.heap.size, 2, none⟩ = some (.int .i64 n) := cell_of_heap hbx1 rfl
    have b3 : w1.cell? ⟨w.heap.size, 3, none⟩ = some (.slice y.t.a terms.length y.t.cap) := cell_of_heap hbx1 rfl
    have b4 : w1.cell? ⟨w.heap.size, 4, none⟩ = some (.slice y.b.a binds.length y.b.cap) := cell_of_heap hbx1 rfl
    have b5 : w1.cell? ⟨w.heap.size, 5, none⟩ = some (.slice y.l.a fl.length y.l.cap) := cell_of_heap hbx1 rfl
    clear hb1 hbx1
    have hd : (fc ≠ 0 /\ (fc != 0) = true) ∨ (fc = 0 /\ (fc != 0) = false) := by by_cases h : fc = 0 <;> simp [h]
    go_wp2_with fail
    refine (HCK.out _ HB1.out.1).mono ?_
    rintro e w2 ⟨rfl, hb2⟩
    have hbx2 := (hb2.block w.heap.size ((Array.getElem?_eq_some_iff.1 HB1.out.2).1)).trans HB1.out.2
    have HB2 := Lib.hid (HB1.out.1.trans (hb2.mono HB1.out.1.size))
    clear b0 b1 b2 b3 b4 b5 hb2
    rcases hd with ⟨d1, d2⟩ | ⟨d1, d2⟩
    · have HD := Lib.hid d1
      clear d1 hbx2
      go_wp2_with fail
      go_ret
      exact ⟨ret_int (by rw [HR.out, if_neg (by simp), if_pos HD.out]), HB2.out⟩
    · subst d1
      clear d2
      have b0 : w2.cell? ⟨w.heap.size, 0, none⟩ = some (.int .i64 kind) := cell_of_heap hbx2 rfl
      have b1 : w2.cell? ⟨w.heap.size, 1, none⟩ = some (.string ⟨name.toArray⟩) := cell_of_heap hbx2 rfl
      have b2 : w2.cell? ⟨w.heap.size, 2, none⟩ = some (.int .i64 n) := cell_of_heap hbx2 rfl
      have b3 : w2.cell? ⟨w.heap.size, 3, none⟩ = some (.slice y.t.a terms.length y.t.cap) := cell_of_heap hbx2 rfl
      have b4 : w2.cell? ⟨w.heap.size, 4, none⟩ = some (.slice y.b.a binds.length y.b.cap) := cell_of_heap hbx2 rfl
      have b5 : w2.cell? ⟨w.heap.size, 5, none⟩ = some (.slice y.l.a fl.length y.l.cap) := cell_of_heap hbx2 rfl
      have HWW := Lib.hid (HWK.out _ HB2.out (by first | rfl | trivial))
      clear hbx2
      go_wp2_with fail
      refine HWW.out.mono ?_
      rintro e w3 ⟨rfl, hb3⟩
      have HB3 := Lib.hid (HB2.out.trans (hb3.mono HB2.out.size))
      clear hb3
      go_wp2_with fail
      go_ret
      exact ⟨ret_int (by rw [HR.out, if_neg (by simp), if_neg (by simp)]), HB3.out⟩

set_option maxRecDepth 100000 in
set_option maxHeartbeats 1000000 in
theorem tterm_any (env : List Bnd) (x : SlA) (t : Trm) (w : World) (hx : SlIn w (· < w.heap.size) (env.map Bnd.toD) x) (hl : env.length <= 1500000) (hmax : ∀ b ∈ env, b.name.length <= 4000000) (ht : TrmFit t) (hg : GG w) :
    Calls Tryz.prog 99 #[.slice x.a env.length x.cap, .agg #[.int .i64 t.kind, .string ⟨t.name.toArray⟩, .int .i64 t.n]] w fun e w' => e = .returned (.tuple #[.int .i64 (typTerm env t).1, .int .i64 (typTerm env t).2]) /\ Below w.heap.size w w' := by
  have hba : Below w.heap.size w (w.alloc (.cells #[.int .i64 t.kind, .string ⟨t.name.toArray⟩, .int .i64 t.n] 147)) := (Below.refl _ _).alloc (Nat.le_refl _) _
  have HM := Lib.hid (amay_any env x _ (hx.later hba hba.size) (by omega) hmax (hg.below hba))
  have hcheck := fun (W : World) (hW : Below w.heap.size w W) => (by
    have hb2 : Below W.heap.size W (W.alloc (.cells #[.int .i64 t.kind, .string ⟨t.name.toArray⟩, .int .i64 t.n, .int .i64 t.kind, .string ⟨t.name.toArray⟩, .int .i64 t.n] 147)) := (Below.refl _ _).alloc (Nat.le_refl _) _
    have hin : FrmIn (W.alloc (.cells #[.int .i64 t.kind, .string ⟨t.name.toArray⟩, .int .i64 t.n, .int .i64 t.kind, .string ⟨t.name.toArray⟩, .int .i64 t.n] 147)) (· < (W.alloc (.cells #[.int .i64 t.kind, .string ⟨t.name.toArray⟩, .int .i64 t.n, .int .i64 t.kind, .string ⟨t.name.toArray⟩, .int .i64 t.n] 147)).heap.size) (termFrm t) ⟨⟨some ⟨W.heap.size, 0, none⟩, W.heap.size, 0, 2⟩, noSl, noSl⟩ :=
      ⟨(show I64 9 from i64_small (by decide) (by decide)), (show (1 : Nat) <= maxLen from by decide), (show I64 0 from i64_small (by decide) (by decide)),
        SlIn.lit (cs := t.toD.vals ++ t.toD.vals) (boxed (B := W.heap.size + 1) (Below.refl _ _) (by omega)) (DsAt.flat2 (Trm.flatT.flat t) (Trm.fine ht) (Trm.flatT.flat t) (Trm.fine ht)) (by show _ < _; simp) (Nat.le_refl _) (by decide), SlIn.nil (Nat.zero_le _) _ _ _, SlIn.nil (Nat.zero_le _) _ _ _⟩
    have hfit : FrmFit (termFrm t) := ⟨by simp [termFrm, Frm.size, fsizes], fun g hg => by
      simp only [termFrm, nodesF, nodesL, List.mem_cons, List.not_mem_nil, or_false] at hg
      subst hg
      refine ⟨by simp [Frm.terms], by simp [Frm.binds], by simp [Frm.l], by simp [Frm.name], fun u hu => ?_, fun c hc => by simp [Frm.binds] at hc⟩
      simp [Frm.terms] at hu; subst hu; exact ht.name⟩
    have hc := fcheck_any (termFrm t) _ _ hin hfit (hg.below (hW.trans (hb2.mono hW.size)))
    simp only [ndV, termFrm, FrmA.cells, SlA.val, Frm.kind, Frm.name, Frm.n, Frm.terms, Frm.binds, Frm.l, List.length_cons, List.length_nil, noSl, Nat.zero_add, Nat.reduceAdd] at hc
    exact hc : Calls Tryz.prog 73 #[.agg #[.int .i64 9, .string ⟨[61].toArray⟩, .int .i64 0, .slice (some ⟨W.heap.size, 0, none⟩) 2 2, .slice none 0 0, .slice none 0 0]] (W.alloc (.cells #[.int .i64 t.kind, .string ⟨t.name.toArray⟩, .int .i64 t.n, .int .i64 t.kind, .string ⟨t.name.toArray⟩, .int .i64 t.n] 147)) fun e w' => e = .returned (.int .i64 (frmCheck (.mk 9 [61] 0 [t, t] [] []))) /\ Below (W.alloc (.cells #[.int .i64 t.kind, .string ⟨t.name.toArray⟩, .int .i64 t.n, .int .i64 t.kind, .string ⟨t.name.toArray⟩, .int .i64 t.n] 147)).heap.size (W.alloc (.cells #[.int .i64 t.kind, .string ⟨t.name.toArray⟩, .int .i64 t.n, .int .i64 t.kind, .string ⟨t.name.toArray⟩, .int .i64 t.n] 147)) w')
  have hso := fun (W : World) (hW : Below w.heap.size w W) (h : termedF t = true) => sort_any env x t W (hx.later hW hW.size) (by omega) (by
    unfold termedF at h
    split at h
    · rename_i he; omega
    · simp only [Bool.and_eq_true, decide_eq_true_eq] at h; omega) (hg.below hW)
  have hte : (frmCheck (.mk 9 [61] 0 [t, t] [] []) != 0) = !(termedF t) := termFrm_check t
  have hres : typTerm env t = if mayA env = false ∨ termedF t = false then (0, 1) else sortF env t := rfl
  have HCK := Lib.hid hcheck
  have HSO := Lib.hid hso
  have HR := Lib.hid hres
  have HTE := Lib.hid hte
  have HB := Lib.hid hba
  clear hcheck hso hres hte hba hx hg hmax ht
  generalize typTerm env t = res at HR ⊢
  generalize mayA env = my at HM HR
  generalize termedF t = te at HSO HTE HR
  generalize sortF env t = so at HSO HR
  generalize frmCheck (.mk 9 [61] 0 [t, t] [] []) = fc at HCK HTE
  obtain ⟨kind, name, n⟩ := t
  simp only at HM HCK HSO HB ⊢
  go_enter Tryz.func99, Tryz.ntmps99
  go_wp2_with fail
  refine HM.out.mono ?_
  rintro e w1 ⟨rfl, hb1⟩
  have hbx1 := (hb1.block w.heap.size (by simp)).trans (boxed (B := w.heap.size + 1) (o := .cells #[.int .i64 kind, .string ⟨name.toArray⟩, .int .i64 n] 147) (Below.refl _ _) (by omega))
  have HB1 := Lib.hid (And.intro (HB.out.trans (hb1.mono HB.out.size)) hbx1)
  cases my
  · clear hb1 hbx1
    have HRR : Hid (res = (0, 1)) := Lib.hid (by rw [HR.out, if_pos (.inl rfl)])
    go_wp2_with fail
    go_ret2
    exact ⟨by rw [HRR.out]; rfl, HB1.out.1⟩
  · have b0 : w1.cell? ⟨w.heap.size, 0, none⟩ = some (.int .i64 kind) := cell_of_heap hbx1 rfl
    have b1 : w1.cell? ⟨w.heap.size, 1, none⟩ = some (.string ⟨name.toArray⟩) := cell_of_heap hbx1 rfl
    have b2 : w1.cell? ⟨w.heap.size, 2, none⟩ = some (.int .i64 n) := cell_of_heap hbx1 rfl
    have HCC := Lib.hid (HCK.out w1 HB1.out.1)
    clear hb1 hbx1
    cases te
    · have hfc : (fc != 0) = true := HTE.out
      have HRR : Hid (res = (0, 1)) := Lib.hid (by rw [HR.out, if_pos (.inr rfl)])
      go_wp2_with fail
      refine HCC.out.mono ?_
      rintro e w2 ⟨rfl, hb2⟩
      have HB2 := Lib.hid (HB1.out.1.trans ((((Below.refl w1.heap.size w1).alloc (Nat.le_refl _) _).trans (hb2.mono (by simp))).mono HB1.out.1.size))
      clear hb2 b0 b1 b2
      go_wp2_with fail
      go_ret2
      exact ⟨by rw [HRR.out]; rfl, HB2.out⟩
    · have hfc : fc = 0 := int_eq HTE.out
      subst hfc
      have HRR : Hid (res = so) := Lib.hid (by rw [HR.out, if_neg (by simp)])
      go_wp2_with fail
      refine HCC.out.mono ?_
      rintro e w2 ⟨rfl, hb2⟩
      have hb12 := ((Below.refl w1.heap.size w1).alloc (Nat.le_refl _) (.cells #[.int .i64 kind, .string ⟨name.toArray⟩, .int .i64 n, .int .i64 kind, .string ⟨name.toArray⟩, .int .i64 n] 147)).trans (hb2.mono (by simp))
      have HB2 := Lib.hid (HB1.out.1.trans (hb12.mono HB1.out.1.size))
      have hbx2 := (hb12.block w.heap.size ((Array.getElem?_eq_some_iff.1 HB1.out.2).1)).trans HB1.out.2
      have c0 : w2.cell? ⟨w.heap.size, 0, none⟩ = some (.int .i64 kind) := cell_of_heap hbx2 rfl
      have c1 : w2.cell? ⟨w.heap.size, 1, none⟩ = some (.string ⟨name.toArray⟩) := cell_of_heap hbx2 rfl
      have c2 : w2.cell? ⟨w.heap.size, 2, none⟩ = some (.int .i64 n) := cell_of_heap hbx2 rfl
      have HSS := Lib.hid (HSO.out w2 HB2.out (by first | rfl | trivial))
      clear hb2 b0 b1 b2 hb12 hbx2
      go_wp2_with fail
      refine HSS.out.mono ?_
      rintro e w3 ⟨rfl, hb3⟩
      have HB3 := Lib.hid (HB2.out.trans (hb3.mono HB2.out.size))
      clear hb3
      go_wp2_with fail
      go_ret2
      exact ⟨by rw [HRR.out]; rfl, HB3.out⟩
end Go.Proofs.YtjjkfgjnadaheaaGreatDoor
/- types: Rule. -/
namespace Go.Chalk
open Go.RowKit
end Go.Chalk
namespace Go.Proofs.YtjjkfgjnadaheaaGreatDoor
open Go.RowKit Go.Chalk
structure RulFit (r : Rul) : Prop where
  name : r.name.length <= 4000000
  len : r.each.length <= 1500000
  each : ∀ b ∈ r.each, b.name.length <= 4000000
  body : FrmFit r.body

end Go.Proofs.YtjjkfgjnadaheaaGreatDoor
/- types: Rules. -/
namespace Go.Chalk
open Go.RowKit
theorem RulIn.later {w w' : World} {r : Rul} {x : RulA} {B C : Nat} (h : RulIn w (· < B) r x) (hb : Below B w w') (hC : B <= C) : RulIn w' (· < C) r x := (h.agree (agree_of_below hb)).mono (fun _ hk => Nat.lt_of_lt_of_le hk hC)
end Go.Chalk
namespace Go.Proofs.YtjjkfgjnadaheaaGreatDoor
open Go.RowKit Go.Chalk
end Go.Proofs.YtjjkfgjnadaheaaGreatDoor
/- week.Check. -/
namespace Go.Proofs.YtjjkfgjnadaheaaGreatDoor
open Go.RowKit Go.Chalk
def SchBox (W : World) (b : Nat) (s : Schl) (x : SchA) : Prop := W.heap[b]? = some (.cells (x.cells s).toArray 28 (0, 0))
theorem SchBox.cells {W : World} {b : Nat} {s : Schl} {x : SchA} (h : SchBox W b s x) : W.cell? ⟨b, 0, none⟩ = some (.slice x.slots.a s.slots.length x.slots.cap) /\ W.cell? ⟨b, 1, none⟩ = some (.slice x.rooms.a s.rooms.length x.rooms.cap) /\ W.cell? ⟨b, 2, none⟩ = some (.slice x.people.a s.people.length x.people.cap) /\ W.cell? ⟨b, 3, none⟩ = some (.slice x.groups.a s.groups.length x.groups.cap) /\ W.cell? ⟨b, 4, none⟩ = some (.slice x.lessons.a s.lessons.length x.lessons.cap) :=
  ⟨cell_of_heap h rfl, cell_of_heap h rfl, cell_of_heap h rfl, cell_of_heap h rfl, cell_of_heap h rfl⟩
theorem SchBox.below {W W' : World} {b : Nat} {s : Schl} {x : SchA} (h : SchBox W b s x) (hb : Below W.heap.size W W') : SchBox W' b s x := (hb.block _ (Array.getElem?_eq_some_iff.1 h).1).trans h
theorem SchBox.lt {W : World} {b : Nat} {s : Schl} {x : SchA} (h : SchBox W b s x) : b < W.heap.size := (Array.getElem?_eq_some_iff.1 h).1

set_option maxRecDepth 100000 in
theorem lost_any (p : Plc) (s : Schl) (x : SchA) (q : Nat) (w : World) (hq : SchBox w q s x) :
    Calls Tryz.prog 95 #[.agg #[.int .i64 p.slot, .int .i64 p.room], .pointer (some ⟨q, 0, none⟩)] w (Answers w (lostB s p)) := by
  obtain ⟨slot, room⟩ := p
  have hb := hq.below ((Below.refl _ _).alloc (Nat.le_refl _) (.cells #[.int .i64 slot, .int .i64 room] 99))
  obtain ⟨c0, c1, _, _, _⟩ := hb.cells
  clear hq hb
  unfold lostB
  simp only
  have HA := Lib.hid (fun W => wwithin_any slot s.slots.length W)
  have HR := Lib.hid (fun W => wwithin_any room s.rooms.length W)
  generalize (decide (0 <= slot) && decide (slot < (s.slots.length : Int))) = a at HA ⊢
  generalize (decide (0 <= room) && decide (room < (s.rooms.length : Int))) = b at HR ⊢
  cases a
  · go_enter Tryz.func95, Tryz.ntmps95
    go_wp2_with fail
    refine (HA.out _).mono ?_
    rintro e w' ⟨rfl, rfl⟩
    go_wp2_with fail
    go_ret
    exact ⟨by simp, (Below.refl _ _).alloc (Nat.le_refl _) _⟩
  · go_enter Tryz.func95, Tryz.ntmps95
    go_wp2_with fail
    refine (HA.out _).mono ?_
    rintro e w' ⟨rfl, rfl⟩
    go_wp2_with fail
    refine (HR.out _).mono ?_
    rintro e w' ⟨rfl, rfl⟩
    go_wp2_with fail
    go_ret
    exact ⟨by simp, (Below.refl _ _).alloc (Nat.le_refl _) _⟩
theorem places_lost (l : List Plc) (y : SlA) (s : Schl) (x : SchA) (q : Nat) (w : World) (hy : SlIn w (· < w.heap.size) (l.map Plc.toD) y) (hl : l.length <= 2000000) (hq : SchBox w q s x) :
    Calls Tryz.prog 96 #[.slice y.a l.length y.cap, .func (.func 95) #[] #[.pointer (some ⟨q, 0, none⟩)]] w fun e w' => e = .returned (.bool (l.any (lostB s))) /\ Below w.heap.size w w' := by
  obtain ⟨g1, _, _, g4, _⟩ := hy.flat Plc.flatT
  rw [<- any_range]
  refine containsFunc_Plc 95 #[.pointer (some ⟨q, 0, none⟩)] (fun j => (l[j]?.map (lostB s)).getD false) l.length (fun j => .int .i64 ((l[j]?.map (·.slot)).getD 0)) (fun j => .int .i64 ((l[j]?.map (·.room)).getD 0)) y.a y.b y.o y.cap w g1 ?_ ?_ (fun _ _ => enters_of Tryz.func95 (by kernel_rfl) rfl _ _) hl
  · intro j hj
    have h := g4.two j hj rfl
    rw [List.getElem?_eq_getElem hj]
    exact h
  · intro j hj W hW
    rw [List.getElem?_eq_getElem hj]
    exact lost_any l[j] s x q W (hq.below hW)

set_option maxRecDepth 100000 in
set_option maxHeartbeats 1000000 in
theorem wcheck_any (s : Schl) (x : SchA) (l : List Plc) (y : SlA) (w : World) (hI : ItoaAt) (hs : SchIn w (· < w.heap.size) s x) (hf : SchFit s) (hy : SlIn w (· < w.heap.size) (l.map Plc.toD) y) (hl : l.length <= 2000000) (hg : GG w) :
    Calls Tryz.prog 51 #[.agg (x.cells s).toArray, .agg #[.slice y.a l.length y.cap]] w fun e w' => e = .returned (.int .i64 (weekCheck s l)) /\ Below w.heap.size w w' := by
  have hba : Below w.heap.size w ((w.alloc (.cells (x.cells s).toArray 28)).alloc (.cells #[.slice y.a l.length y.cap] 50)) := ((Below.refl _ _).alloc (Nat.le_refl _) _).alloc (by simp) _
  have hbx : SchBox ((w.alloc (.cells (x.cells s).toArray 28)).alloc (.cells #[.slice y.a l.length y.cap] 50)) w.heap.size s x := by unfold SchBox; rw [heap_get, if_neg (by simp), heap_get, if_pos rfl]
  have hby : ((w.alloc (.cells (x.cells s).toArray 28)).alloc (.cells #[.slice y.a l.length y.cap] 50)).heap[w.heap.size + 1]? = some (.cells #[.slice y.a l.length y.cap] 50 (0, 0)) := by rw [heap_get, if_pos (by simp)]
  have HSC := Lib.hid (scheck_any s x _ hI (hs.later hba hba.size) hf (hg.below hba))
  have HPL := Lib.hid (fun (W : World) (hW : Below w.heap.size w W) (hq : SchBox W w.heap.size s x) => places_lost l y s x w.heap.size W (hy.later hW hW.size) hl hq)
  have HR : Hid (weekCheck s l = if schCheck s ≠ 0 then schCheck s else if l.length ≠ s.lessons.length ∨ l.any (lostB s) = true then 40 else 0) := Lib.hid rfl
  have HB := Lib.hid (And.intro hba (And.intro hbx hby))
  have hmf : ∀ (fn : Fn) (first cap : Array Value) (w : World), (Instr.makeFunc fn first cap).run Tryz.prog w = .ok (.func fn first cap) w := fun _ _ _ _ => rfl
  clear hs hy hg hf hba hbx hby hI
  generalize weekCheck s l = res at HR ⊢
  generalize schCheck s = sc at HSC HR
  generalize l.any (lostB s) = an at HPL HR
  simp only [SchA.cells, SlA.val] at HSC HB ⊢
  have hd : (sc ≠ 0 /\ (sc != 0) = true) ∨ (sc = 0 /\ (sc != 0) = false) := by by_cases h : sc = 0 <;> simp [h]
  go_enter Tryz.func51, Tryz.ntmps51
  go_wp2_with fail
  refine HSC.out.mono ?_
  rintro e w1 ⟨rfl, hb1⟩
  have HB1 := Lib.hid (And.intro (HB.out.1.trans (hb1.mono HB.out.1.size)) (And.intro (HB.out.2.1.below hb1) ((hb1.block (w.heap.size + 1) (by simp)).trans HB.out.2.2)))
  clear hb1
  rcases hd with ⟨d1, d2⟩ | ⟨d1, d2⟩
  · have HD := Lib.hid d1
    clear d1
    go_wp2_with fail
    go_ret
    exact ⟨ret_int (by rw [HR.out, if_pos HD.out]), HB1.out.1⟩
  subst d1
  clear d2
  have b4 := HB1.out.2.1.cells.2.2.2.2
  have c0 : w1.cell? ⟨w.heap.size + 1, 0, none⟩ = some (.slice y.a l.length y.cap) := cell_of_heap HB1.out.2.2 rfl
  have hle : (l.length ≠ s.lessons.length /\ ((l.length : Int) != (s.lessons.length : Int)) = true) ∨ (l.length = s.lessons.length /\ ((l.length : Int) != (s.lessons.length : Int)) = false) := by
    by_cases h : l.length = s.lessons.length
    · exact .inr ⟨h, by simp; omega⟩
    · exact .inl ⟨h, by simp; omega⟩
  rcases hle with ⟨d1, d2⟩ | ⟨d1, d2⟩
  · have HD := Lib.hid d1
    clear d1
    go_wp2_with fail
    go_ret
    exact ⟨ret_int (by rw [HR.out, if_neg (by simp), if_pos (.inl HD.out)]), HB1.out.1⟩
  have hpw := HPL.out w1 HB1.out.1 HB1.out.2.1
  have HPW := Lib.hid hpw
  have HD := Lib.hid d1
  clear d1 hpw
  go_wp2_with fail
  refine HPW.out.mono ?_
  rintro e w2 ⟨rfl, hb2⟩
  have HB2 := Lib.hid (HB1.out.1.trans (hb2.mono HB1.out.1.size))
  clear hb2
  cases an
  · go_wp2_with fail
    go_ret
    exact ⟨ret_int (by rw [HR.out, if_neg (by simp), if_neg (by rw [HD.out]; simp)]), HB2.out⟩
  · go_wp2_with fail
    go_ret
    exact ⟨ret_int (by rw [HR.out, if_neg (by simp), if_pos (.inr (by first | rfl | trivial))]), HB2.out⟩
end Go.Proofs.YtjjkfgjnadaheaaGreatDoor
