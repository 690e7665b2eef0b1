/- Joined texts: EvL, EvM, EvN. -/
import Derived.Test.YtlfjjokcbeaekaaGreatDoorB36
import Derived.Test.YtlfjjokcbeaekaaGreatDoorB09
import Derived.Deep.RegionHeld3

/- eval.holds: constants and connectives. -/
namespace Go.Chalk
open Go.RowKit
theorem holdsAt_get {s : Schl} {w : List Plc} {env : List Ev} : ∀ {l : List Frm} {j : Nat} (h : j < l.length), holdsAt s w env l j = holdsF s w env l[j]
  | f :: r, 0, _ => by rw [holdsAt]; rfl
  | f :: r, j + 1, h => by rw [holdsAt, holdsAt_get (by simpa using h)]; rfl
theorem formed_len {kind : Int} {name : Bs} {n : Int} {terms : List Trm} {binds : List Bnd} {l : List Frm} (h : formedF (.mk kind name n terms binds l) = true) : arityF kind = some l.length ∧ (terms = [] ∨ atomK kind = true) ∧ (binds = [] ∨ quantK kind = true) := by
  rw [formedF_mk, Bool.and_eq_true, partsOk_mk] at h
  have h1 := h.1
  simp only [Bool.and_eq_true, Bool.or_eq_true, beq_iff_eq, List.isEmpty_iff] at h1
  exact ⟨h1.1.1.1.1, h1.1.1.1.2, h1.1.1.2⟩
end Go.Chalk
namespace Go.Proofs.YtlfjjokcbeaekaaGreatDoor
open Go.RowKit Go.Chalk

/-- The world behind the three boxes. -/
abbrev hdW (w : World) (s : Schl) (x : SchA) (l : List Plc) (y : SlA) (env : List Ev) (z : SlA) (f : Frm) (fa : FrmA) : World :=
  ((w.alloc (.cells #[.slice x.slots.a s.slots.length x.slots.cap, .slice x.rooms.a s.rooms.length x.rooms.cap, .slice x.people.a s.people.length x.people.cap, .slice x.groups.a s.groups.length x.groups.cap, .slice x.lessons.a s.lessons.length x.lessons.cap, .slice y.a l.length y.cap] 95)).alloc (.cells #[.slice z.a env.length z.cap] 32)).alloc (.cells (fa.cells f).toArray 37)
theorem hdW_box (w : World) (s : Schl) (x : SchA) (l : List Plc) (y : SlA) (env : List Ev) (z : SlA) (f : Frm) (fa : FrmA) : HdBox (hdW w s x l y env z f fa) w.heap.size s x l y env z f fa :=
  ⟨by rw [heap_get, if_neg (by simp; omega), heap_get, if_neg (by simp), heap_get, if_pos rfl], by rw [heap_get, if_neg (by simp), heap_get, if_pos (by simp)], by rw [heap_get, if_pos (by simp)]⟩
theorem hdW_below (w : World) (s : Schl) (x : SchA) (l : List Plc) (y : SlA) (env : List Ev) (z : SlA) (f : Frm) (fa : FrmA) : Below w.heap.size w (hdW w s x l y env z f fa) :=
  (((Below.refl _ _).alloc (Nat.le_refl _) _).alloc (by simp) _).alloc (by simp; omega) _

set_option maxRecDepth 100000 in
set_option maxHeartbeats 1000000 in
theorem holds_const (s : Schl) (x : SchA) (l : List Plc) (y : SlA) (env : List Ev) (z : SlA) (kind : Int) (name : Bs) (n : Int) (binds : List Bnd) (fl : List Frm) (fa : FrmA) (w : World) (hk : kind = 1 ∨ kind = 2) :
    Calls Tryz.prog 33 #[stV s x l y, .slice z.a env.length z.cap, ndV (.mk kind name n [] binds fl, fa)] w fun e w' => e = .returned (.bool (holdsF s l env (.mk kind name n [] binds fl))) ∧ Below w.heap.size w w' := by
  have hb := hdW_below w s x l y env z (.mk kind name n [] binds fl) fa
  have hr : holdsF s l env (.mk kind name n [] binds fl) = (kind == 1) := by
    rw [holdsF_nil]
    rcases hk with rfl | rfl
    · rfl
    · rfl
  have hmf : ∀ (fn : Fn) (first cap : Array Value) (w : World), (Instr.makeFunc fn first cap).run Tryz.prog w = .ok (.func fn first cap) w := fun _ _ _ _ => rfl
  rw [hr]
  have HB := Lib.hid hb
  clear hb hr
  unfold stV
  simp only [hdW, ndV, FrmA.cells, SlA.val, Frm.kind, Frm.name, Frm.n, Frm.terms, Frm.binds, Frm.l] at HB ⊢
  rcases hk with rfl | rfl
  · go_enter Tryz.func33, Tryz.ntmps33
    go_wp2_with fail
    go_ret
    exact ⟨rfl, HB.out⟩
  · go_enter Tryz.func33, Tryz.ntmps33
    go_wp2_with fail
    go_ret
    exact ⟨rfl, HB.out⟩

set_option maxRecDepth 100000 in
set_option maxHeartbeats 2000000 in
theorem holds_conn (s : Schl) (x : SchA) (l : List Plc) (y : SlA) (env : List Ev) (z : SlA) (kind : Int) (name : Bs) (n : Int) (fl : List Frm) (fa : FrmA) (w : World) (hk : 10 ≤ kind ∧ kind ≤ 13) (hf : formedF (.mk kind name n [] [] fl) = true) (hx : FrmIn w (· < w.heap.size) (.mk kind name n [] [] fl) fa)
    (ih : ∀ (j : Nat) (hj : j < fl.length) (y1 : FrmA) (W : World), Below w.heap.size w W → FrmIn w (· < w.heap.size) fl[j] y1 → Calls Tryz.prog 33 #[stV s x l y, .slice z.a env.length z.cap, ndV (fl[j], y1)] W fun e w' => e = .returned (.bool (holdsF s l env fl[j])) ∧ Below W.heap.size W w') :
    Calls Tryz.prog 33 #[stV s x l y, .slice z.a env.length z.cap, ndV (.mk kind name n [] [] fl, fa)] w fun e w' => e = .returned (.bool (holdsF s l env (.mk kind name n [] [] fl))) ∧ Below w.heap.size w w' := by
  have hb := hdW_below w s x l y env z (.mk kind name n [] [] fl) fa
  have hbx := hdW_box w s x l y env z (.mk kind name n [] [] fl) fa
  have hpt : ∀ (j : Nat) (hj : j < fl.length) (W : World), Below w.heap.size w W → HdBox W w.heap.size s x l y env z (.mk kind name n [] [] fl) fa → Calls Tryz.prog 62 #[.int .i64 j, .pointer (some ⟨w.heap.size, 0, none⟩), .pointer (some ⟨w.heap.size + 1, 0, none⟩), .pointer (some ⟨w.heap.size + 1 + 1, 0, none⟩)] W fun e w' => e = .returned (.bool (holdsF s l env fl[j])) ∧ Below W.heap.size W w' := by
    intro j hj W hW hB
    obtain ⟨y1, h1, h2⟩ := hx.l.frm j hj
    obtain ⟨hla, hlb⟩ := hx.l.at_ (by rw [List.length_map]; exact Nat.lt_of_le_of_lt (Nat.zero_le _) hj)
    exact holds1_any s x l y env z kind name n [] [] fl fa j hj W w.heap.size hB y1 (h2.agree (agree_of_below hW) hlb) hla _ (fun W' hW' => ih j hj y1 W' (hW.trans (hW'.mono hW.size)) h1)
  obtain ⟨har, _, _⟩ := formed_len hf
  have hmf : ∀ (fn : Fn) (first cap : Array Value) (w : World), (Instr.makeFunc fn first cap).run Tryz.prog w = .ok (.func fn first cap) w := fun _ _ _ _ => rfl
  have hkk : kind = 10 ∨ kind = 11 ∨ kind = 12 ∨ kind = 13 := by omega
  clear hx ih hk hf
  unfold stV at hpt ⊢
  rcases hkk with rfl | rfl | rfl | rfl
  · obtain ⟨g, rfl⟩ : ∃ g, fl = [g] := by
      have h1 : fl.length = 1 := by simpa [arityF] using har.symm
      exact List.length_eq_one_iff.1 h1
    · have HB := Lib.hid (And.intro hb hbx)
      have hr : holdsF s l env (.mk 10 name n [] [] [g]) = !(holdsF s l env g) := by rw [holdsF_nil, if_neg (by decide), if_neg (by decide), if_pos rfl, holdsAt]
      rw [hr]
      have h0 : Calls Tryz.prog 62 #[.int .i64 0, .pointer (some ⟨w.heap.size, 0, none⟩), .pointer (some ⟨w.heap.size + 1, 0, none⟩), .pointer (some ⟨w.heap.size + 1 + 1, 0, none⟩)] (hdW w s x l y env z (.mk 10 name n [] [] [g]) fa) fun e w' => e = .returned (.bool (holdsF s l env g)) ∧ Below (hdW w s x l y env z (.mk 10 name n [] [] [g]) fa).heap.size (hdW w s x l y env z (.mk 10 name n [] [] [g]) fa) w' := hpt 0 (Nat.zero_lt_one) _ hb hbx
      generalize holdsF s l env g = v at h0 ⊢
      clear hpt hb hbx hr
      have HC := Lib.hid h0
      simp only [hdW, ndV, FrmA.cells, SlA.val, Frm.kind, Frm.name, Frm.n, Frm.terms, Frm.binds, Frm.l] at HB HC ⊢
      clear h0
      go_enter Tryz.func33, Tryz.ntmps33
      go_wp2_with fail
      refine HC.out.mono ?_
      rintro e w1 ⟨rfl, hb1⟩
      have HB1 := Lib.hid (HB.out.1.trans (hb1.mono HB.out.1.size))
      clear hb1
      go_wp2_with fail
      go_ret
      exact ⟨rfl, HB1.out⟩
  · obtain ⟨g, h, rfl⟩ : ∃ g h, fl = [g, h] := by
      have h1 : fl.length = 2 := by simpa [arityF] using har.symm
      match fl, h1 with
      | [g, h], _ => exact ⟨g, h, rfl⟩
    · have HB := Lib.hid (And.intro hb hbx)
      have hr : holdsF s l env (.mk 11 name n [] [] [g, h]) = (holdsF s l env g && holdsF s l env h) := by rw [holdsF_nil, if_neg (by decide), if_neg (by decide), if_neg (by decide), if_pos rfl, holdsAt, holdsAt, holdsAt]
      rw [hr]
      have h0 : Calls Tryz.prog 62 #[.int .i64 0, .pointer (some ⟨w.heap.size, 0, none⟩), .pointer (some ⟨w.heap.size + 1, 0, none⟩), .pointer (some ⟨w.heap.size + 1 + 1, 0, none⟩)] (hdW w s x l y env z (.mk 11 name n [] [] [g, h]) fa) fun e w' => e = .returned (.bool (holdsF s l env g)) ∧ Below (hdW w s x l y env z (.mk 11 name n [] [] [g, h]) fa).heap.size (hdW w s x l y env z (.mk 11 name n [] [] [g, h]) fa) w' := hpt 0 (by show 0 < 2; decide) _ hb hbx
      have h1 : ∀ W, Below w.heap.size w W → HdBox W w.heap.size s x l y env z (.mk 11 name n [] [] [g, h]) fa → Calls Tryz.prog 62 #[.int .i64 1, .pointer (some ⟨w.heap.size, 0, none⟩), .pointer (some ⟨w.heap.size + 1, 0, none⟩), .pointer (some ⟨w.heap.size + 1 + 1, 0, none⟩)] W fun e w' => e = .returned (.bool (holdsF s l env h)) ∧ Below W.heap.size W w' := hpt 1 (by show 1 < 2; decide)
      generalize holdsF s l env g = v0 at h0 ⊢
      generalize holdsF s l env h = v1 at h1 ⊢
      clear hpt hb hbx hr
      have HC := Lib.hid h0
      have HC2 := Lib.hid h1
      clear h0 h1
      simp only [hdW, ndV, FrmA.cells, SlA.val, Frm.kind, Frm.name, Frm.n, Frm.terms, Frm.binds, Frm.l] at HB HC ⊢
      go_enter Tryz.func33, Tryz.ntmps33
      go_wp2_with fail
      refine HC.out.mono ?_
      rintro e w1 ⟨rfl, hb1⟩
      have HB1 := Lib.hid (And.intro (HB.out.1.trans (hb1.mono HB.out.1.size)) (HB.out.2.below hb1))
      clear hb1
      cases v0
      · go_wp2_with fail
        go_ret
        exact ⟨by simp, HB1.out.1⟩
      · have HCW := Lib.hid (HC2.out w1 HB1.out.1 HB1.out.2)
        go_wp2_with fail
        refine HCW.out.mono ?_
        rintro e w2 ⟨rfl, hb2⟩
        have HB2 := Lib.hid (HB1.out.1.trans (hb2.mono HB1.out.1.size))
        clear hb2
        go_wp2_with fail
        go_ret
        exact ⟨by simp, HB2.out⟩
  · obtain ⟨g, h, rfl⟩ : ∃ g h, fl = [g, h] := by
      have h1 : fl.length = 2 := by simpa [arityF] using har.symm
      match fl, h1 with
      | [g, h], _ => exact ⟨g, h, rfl⟩
    · have HB := Lib.hid (And.intro hb hbx)
      have hr : holdsF s l env (.mk 12 name n [] [] [g, h]) = (holdsF s l env g || holdsF s l env h) := by rw [holdsF_nil, if_neg (by decide), if_neg (by decide), if_neg (by decide), if_neg (by decide), if_pos rfl, holdsAt, holdsAt, holdsAt]
      rw [hr]
      have h0 : Calls Tryz.prog 62 #[.int .i64 0, .pointer (some ⟨w.heap.size, 0, none⟩), .pointer (some ⟨w.heap.size + 1, 0, none⟩), .pointer (some ⟨w.heap.size + 1 + 1, 0, none⟩)] (hdW w s x l y env z (.mk 12 name n [] [] [g, h]) fa) fun e w' => e = .returned (.bool (holdsF s l env g)) ∧ Below (hdW w s x l y env z (.mk 12 name n [] [] [g, h]) fa).heap.size (hdW w s x l y env z (.mk 12 name n [] [] [g, h]) fa) w' := hpt 0 (by show 0 < 2; decide) _ hb hbx
      have h1 : ∀ W, Below w.heap.size w W → HdBox W w.heap.size s x l y env z (.mk 12 name n [] [] [g, h]) fa → Calls Tryz.prog 62 #[.int .i64 1, .pointer (some ⟨w.heap.size, 0, none⟩), .pointer (some ⟨w.heap.size + 1, 0, none⟩), .pointer (some ⟨w.heap.size + 1 + 1, 0, none⟩)] W fun e w' => e = .returned (.bool (holdsF s l env h)) ∧ Below W.heap.size W w' := hpt 1 (by show 1 < 2; decide)
      generalize holdsF s l env g = v0 at h0 ⊢
      generalize holdsF s l env h = v1 at h1 ⊢
      clear hpt hb hbx hr
      have HC := Lib.hid h0
      have HC2 := Lib.hid h1
      clear h0 h1
      simp only [hdW, ndV, FrmA.cells, SlA.val, Frm.kind, Frm.name, Frm.n, Frm.terms, Frm.binds, Frm.l] at HB HC ⊢
      go_enter Tryz.func33, Tryz.ntmps33
      go_wp2_with fail
      refine HC.out.mono ?_
      rintro e w1 ⟨rfl, hb1⟩
      have HB1 := Lib.hid (And.intro (HB.out.1.trans (hb1.mono HB.out.1.size)) (HB.out.2.below hb1))
      clear hb1
      cases v0
      · have HCW := Lib.hid (HC2.out w1 HB1.out.1 HB1.out.2)
        go_wp2_with fail
        refine HCW.out.mono ?_
        rintro e w2 ⟨rfl, hb2⟩
        have HB2 := Lib.hid (HB1.out.1.trans (hb2.mono HB1.out.1.size))
        clear hb2
        go_wp2_with fail
        go_ret
        exact ⟨by simp, HB2.out⟩
      · go_wp2_with fail
        go_ret
        exact ⟨by simp, HB1.out.1⟩
  · obtain ⟨g, h, rfl⟩ : ∃ g h, fl = [g, h] := by
      have h1 : fl.length = 2 := by simpa [arityF] using har.symm
      match fl, h1 with
      | [g, h], _ => exact ⟨g, h, rfl⟩
    · have HB := Lib.hid (And.intro hb hbx)
      have hr : holdsF s l env (.mk 13 name n [] [] [g, h]) = (!(holdsF s l env g) || holdsF s l env h) := by rw [holdsF_nil, if_neg (by decide), if_neg (by decide), if_neg (by decide), if_neg (by decide), if_neg (by decide), if_pos rfl, holdsAt, holdsAt, holdsAt]
      rw [hr]
      have h0 : Calls Tryz.prog 62 #[.int .i64 0, .pointer (some ⟨w.heap.size, 0, none⟩), .pointer (some ⟨w.heap.size + 1, 0, none⟩), .pointer (some ⟨w.heap.size + 1 + 1, 0, none⟩)] (hdW w s x l y env z (.mk 13 name n [] [] [g, h]) fa) fun e w' => e = .returned (.bool (holdsF s l env g)) ∧ Below (hdW w s x l y env z (.mk 13 name n [] [] [g, h]) fa).heap.size (hdW w s x l y env z (.mk 13 name n [] [] [g, h]) fa) w' := hpt 0 (by show 0 < 2; decide) _ hb hbx
      have h1 : ∀ W, Below w.heap.size w W → HdBox W w.heap.size s x l y env z (.mk 13 name n [] [] [g, h]) fa → Calls Tryz.prog 62 #[.int .i64 1, .pointer (some ⟨w.heap.size, 0, none⟩), .pointer (some ⟨w.heap.size + 1, 0, none⟩), .pointer (some ⟨w.heap.size + 1 + 1, 0, none⟩)] W fun e w' => e = .returned (.bool (holdsF s l env h)) ∧ Below W.heap.size W w' := hpt 1 (by show 1 < 2; decide)
      generalize holdsF s l env g = v0 at h0 ⊢
      generalize holdsF s l env h = v1 at h1 ⊢
      clear hpt hb hbx hr
      have HC := Lib.hid h0
      have HC2 := Lib.hid h1
      clear h0 h1
      simp only [hdW, ndV, FrmA.cells, SlA.val, Frm.kind, Frm.name, Frm.n, Frm.terms, Frm.binds, Frm.l] at HB HC ⊢
      go_enter Tryz.func33, Tryz.ntmps33
      go_wp2_with fail
      refine HC.out.mono ?_
      rintro e w1 ⟨rfl, hb1⟩
      have HB1 := Lib.hid (And.intro (HB.out.1.trans (hb1.mono HB.out.1.size)) (HB.out.2.below hb1))
      clear hb1
      cases v0
      · go_wp2_with fail
        go_ret
        exact ⟨by simp, HB1.out.1⟩
      · have HCW := Lib.hid (HC2.out w1 HB1.out.1 HB1.out.2)
        go_wp2_with fail
        refine HCW.out.mono ?_
        rintro e w2 ⟨rfl, hb2⟩
        have HB2 := Lib.hid (HB1.out.1.trans (hb2.mono HB1.out.1.size))
        clear hb2
        go_wp2_with fail
        go_ret
        exact ⟨by simp, HB2.out⟩
end Go.Proofs.YtlfjjokcbeaekaaGreatDoor

/- eval.holds: comparisons. -/
namespace Go.Proofs.YtlfjjokcbeaekaaGreatDoor
open Go.RowKit Go.Chalk

set_option maxRecDepth 100000 in
set_option maxHeartbeats 4000000 in
theorem holds_cmp (s : Schl) (x : SchA) (l : List Plc) (y : SlA) (env : List Ev) (z : SlA) (name : Bs) (n : Int) (t u : Trm) (binds : List Bnd) (fl : List Frm) (fa : FrmA) (w : World) (hg : GG w) (hx : SlIn w (· < w.heap.size) ([t, u].map Trm.toD) fa.t) (hc : cmpL.contains name = true)
    (hv : ∀ c ∈ [t, u], ∀ W, Below w.heap.size w W → Calls Tryz.prog 64 #[stV s x l y, .slice z.a env.length z.cap, .agg #[.int .i64 c.kind, .string ⟨c.name.toArray⟩, .int .i64 c.n]] W fun e w' => e = .returned (.int .i64 (valueF s env c)) ∧ Below W.heap.size W w') :
    Calls Tryz.prog 33 #[stV s x l y, .slice z.a env.length z.cap, ndV (.mk 9 name n [t, u] binds fl, fa)] w fun e w' => e = .returned (.bool (holdsF s l env (.mk 9 name n [t, u] binds fl))) ∧ Below w.heap.size w w' := by
  have hb := hdW_below w s x l y env z (.mk 9 name n [t, u] binds fl) fa
  obtain ⟨hb1, hb2, hb3⟩ := hdW_box w s x l y env z (.mk 9 name n [t, u] binds fl) fa
  have hr : holdsF s l env (.mk 9 name n [t, u] binds fl) = cmpHolds name (valueF s env t) (valueF s env u) := by rw [holdsF_two, if_neg (by decide), if_neg (by decide), if_pos rfl]
  rw [hr]
  obtain ⟨gs, hgs, hen, hca⟩ := sign_call name hc
  have hnl : name.length ≤ maxLen := by
    unfold cmpL at hc
    simp only [List.contains_iff_mem, List.mem_cons, List.not_mem_nil, or_false] at hc
    rcases hc with rfl | rfl | rfl | rfl | rfl | rfl <;> decide
  obtain ⟨g1, _, _, g4, _⟩ := hx.flat Trm.flatT
  obtain ⟨ta, tb⟩ := g1 (by simp)
  obtain ⟨t0, t1, t2⟩ := g4.three 0 (by simp) rfl
  obtain ⟨u0, u1, u2⟩ := g4.three 1 (by simp) rfl
  obtain ⟨mb, mo, q1, q2, q3⟩ := hg.signs
  have HV1 := Lib.hid (hv t (by simp))
  have HV2 := Lib.hid (hv u (by simp))
  have HCA := Lib.hid (hca (valueF s env t) (valueF s env u))
  simp only [List.getElem_cons_zero, List.getElem_cons_succ, Nat.zero_mul, Nat.add_zero, Nat.one_mul] at t0 t1 t2 u0 u1 u2
  have HK : Hid (∀ W', Below (hdW w s x l y env z (.mk 9 name n [t, u] binds fl) fa).heap.size (hdW w s x l y env z (.mk 9 name n [t, u] binds fl) fa) W' → W'.cell? ⟨0, 0, none⟩ = some (.map (some mb)) ∧ (Instr.lookup 130 (.map (some mb)) (.string ⟨name.toArray⟩) false).run Tryz.prog W' = .ok (.func (.func gs) #[] #[]) W' ∧
      W'.cell? ⟨w.heap.size, 0, none⟩ = some (.slice x.slots.a s.slots.length x.slots.cap) ∧ W'.cell? ⟨w.heap.size, 1, none⟩ = some (.slice x.rooms.a s.rooms.length x.rooms.cap) ∧ W'.cell? ⟨w.heap.size, 2, none⟩ = some (.slice x.people.a s.people.length x.people.cap) ∧ W'.cell? ⟨w.heap.size, 3, none⟩ = some (.slice x.groups.a s.groups.length x.groups.cap) ∧ W'.cell? ⟨w.heap.size, 4, none⟩ = some (.slice x.lessons.a s.lessons.length x.lessons.cap) ∧ W'.cell? ⟨w.heap.size, 5, none⟩ = some (.slice y.a l.length y.cap) ∧
      W'.cell? ⟨w.heap.size + 1, 0, none⟩ = some (.slice z.a env.length z.cap) ∧ W'.cell? ⟨w.heap.size + 1 + 1, 1, none⟩ = some (.string ⟨name.toArray⟩) ∧ W'.cell? ⟨w.heap.size + 1 + 1, 3, none⟩ = some (.slice fa.t.a 2 fa.t.cap) ∧
      W'.cell? ⟨fa.t.b, fa.t.o, none⟩ = some (.int .i64 t.kind) ∧ W'.cell? ⟨fa.t.b, fa.t.o + 1, none⟩ = some (.string ⟨t.name.toArray⟩) ∧ W'.cell? ⟨fa.t.b, fa.t.o + 2, none⟩ = some (.int .i64 t.n) ∧
      W'.cell? ⟨fa.t.b, fa.t.o + 3, none⟩ = some (.int .i64 u.kind) ∧ W'.cell? ⟨fa.t.b, fa.t.o + 3 + 1, none⟩ = some (.string ⟨u.name.toArray⟩) ∧ W'.cell? ⟨fa.t.b, fa.t.o + 3 + 2, none⟩ = some (.int .i64 u.n)) :=
    Lib.hid (fun W' hW => by
      have hw : Below w.heap.size w W' := hb.trans (hW.mono hb.size)
      have c1 := (hW.block w.heap.size (Array.getElem?_eq_some_iff.1 hb1).1).trans hb1
      have c2 := (hW.block (w.heap.size + 1) (Array.getElem?_eq_some_iff.1 hb2).1).trans hb2
      have c3 := (hW.block (w.heap.size + 1 + 1) (Array.getElem?_eq_some_iff.1 hb3).1).trans hb3
      have hl := q3 W' ((hw.block _ (Array.getElem?_eq_some_iff.1 q2).1).trans q2) (.string ⟨name.toArray⟩) ⟨_, hnl, rfl⟩
      simp only [keyBs_str, hgs] at hl
      refine ⟨(hw.cell (World.block_lt_of_cell? w _ q1)).trans q1, hl, cell_of_heap c1 rfl, cell_of_heap c1 rfl, cell_of_heap c1 rfl, cell_of_heap c1 rfl, cell_of_heap c1 rfl, cell_of_heap c1 rfl, cell_of_heap c2 rfl, cell_of_heap c3 rfl, cell_of_heap c3 rfl, ?_, ?_, ?_, ?_, ?_, ?_⟩
      · exact (hw.cell (p := ⟨fa.t.b, fa.t.o, none⟩) tb).trans t0
      · exact (hw.cell (p := ⟨fa.t.b, fa.t.o + 1, none⟩) tb).trans t1
      · exact (hw.cell (p := ⟨fa.t.b, fa.t.o + 2, none⟩) tb).trans t2
      · exact (hw.cell (p := ⟨fa.t.b, fa.t.o + 3, none⟩) tb).trans u0
      · exact (hw.cell (p := ⟨fa.t.b, fa.t.o + 3 + 1, none⟩) tb).trans u1
      · exact (hw.cell (p := ⟨fa.t.b, fa.t.o + 3 + 2, none⟩) tb).trans u2)
  have HB := Lib.hid hb
  have hmf : ∀ (fn : Fn) (first cap : Array Value) (w : World), (Instr.makeFunc fn first cap).run Tryz.prog w = .ok (.func fn first cap) w := fun _ _ _ _ => rfl
  clear hg hx hc hv hb hb1 hb2 hb3 hr hgs hca g1 g4 tb t0 t1 t2 u0 u1 u2 q1 q2 q3
  unfold stV at HV1 HV2 ⊢
  generalize valueF s env t = va at HV1 HCA ⊢
  generalize valueF s env u = vb at HV2 HCA ⊢
  generalize cmpHolds name va vb = res at HCA ⊢
  simp only [hdW, ndV, FrmA.cells, SlA.val, Frm.kind, Frm.name, Frm.n, Frm.terms, Frm.binds, Frm.l, List.length_cons, List.length_nil, Nat.zero_add, Nat.reduceAdd, ta] at HB HK ⊢
  go_enter Tryz.func33, Tryz.ntmps33
  go_wp2_with fail
  go_region_held3 (fun w' => w'.cell? ⟨0, 0, none⟩ = some (.map (some mb)) ∧ (Instr.lookup 130 (.map (some mb)) (.string ⟨name.toArray⟩) false).run Tryz.prog w' = .ok (.func (.func gs) #[] #[]) w' ∧ w'.cell? ⟨w.heap.size, 0, none⟩ = some (.slice x.slots.a s.slots.length x.slots.cap) ∧ w'.cell? ⟨w.heap.size, 1, none⟩ = some (.slice x.rooms.a s.rooms.length x.rooms.cap) ∧ w'.cell? ⟨w.heap.size, 2, none⟩ = some (.slice x.people.a s.people.length x.people.cap) ∧ w'.cell? ⟨w.heap.size, 3, none⟩ = some (.slice x.groups.a s.groups.length x.groups.cap) ∧ w'.cell? ⟨w.heap.size, 4, none⟩ = some (.slice x.lessons.a s.lessons.length x.lessons.cap) ∧ w'.cell? ⟨w.heap.size, 5, none⟩ = some (.slice y.a l.length y.cap) ∧ w'.cell? ⟨w.heap.size + 1, 0, none⟩ = some (.slice z.a env.length z.cap) ∧ w'.cell? ⟨w.heap.size + 1 + 1, 1, none⟩ = some (.string ⟨name.toArray⟩) ∧ w'.cell? ⟨w.heap.size + 1 + 1, 3, none⟩ = some (.slice (some ⟨fa.t.b, fa.t.o, none⟩) 2 fa.t.cap) ∧ w'.cell? ⟨fa.t.b, fa.t.o, none⟩ = some (.int .i64 t.kind) ∧ w'.cell? ⟨fa.t.b, fa.t.o + 1, none⟩ = some (.string ⟨t.name.toArray⟩) ∧ w'.cell? ⟨fa.t.b, fa.t.o + 2, none⟩ = some (.int .i64 t.n) ∧ w'.cell? ⟨fa.t.b, fa.t.o + 3, none⟩ = some (.int .i64 u.kind) ∧ w'.cell? ⟨fa.t.b, fa.t.o + 3 + 1, none⟩ = some (.string ⟨u.name.toArray⟩) ∧ w'.cell? ⟨fa.t.b, fa.t.o + 3 + 2, none⟩ = some (.int .i64 u.n)) ((refine HK.out _ ?_; first | exact HN2.out | exact HN1.out | exact (Below.refl _ _).drew | fail)) (first
    | (go_at_call 64; refine (HV2.out _ (HB.out.trans (HN1.out.mono HB.out.size))).mono ?_; rintro e w2 ⟨rfl, hbb⟩; have HN2 := Lib.hid (HN1.out.trans (hbb.mono HN1.out.size)); clear hbb)
    | (go_at_call 64; refine (HV1.out _ HB.out.drew).mono ?_; rintro e w1 ⟨rfl, hbb⟩; have HN1 := Lib.hid (Below.trans (Below.drew (Below.refl _ _)) hbb); clear hbb)
    | (go_at_call 63; refine (compare_any va vb _).mono ?_; rintro e w3 ⟨rfl, rfl⟩)
    | (refine (HCA.out _).mono ?_; rintro e w3 ⟨rfl, rfl⟩))
  all_goals
    go_wp2_with fail
    go_ret
    exact ⟨rfl, HB.out.trans (HN2.out.mono HB.out.size)⟩
end Go.Proofs.YtlfjjokcbeaekaaGreatDoor

/- eval.holds: atoms. -/
namespace Go.Proofs.YtlfjjokcbeaekaaGreatDoor
open Go.RowKit Go.Chalk

set_option maxRecDepth 100000 in
set_option maxHeartbeats 4000000 in
theorem holds_atom (s : Schl) (x : SchA) (l : List Plc) (y : SlA) (env : List Ev) (z : SlA) (kind : Int) (name : Bs) (n : Int) (t u : Trm) (binds : List Bnd) (fl : List Frm) (fa : FrmA) (w : World) (hk : 3 ≤ kind ∧ kind ≤ 8) (hg : GG w) (hx : SlIn w (· < w.heap.size) ([t, u].map Trm.toD) fa.t)
    (hs : SchIn w (· < w.heap.size) s x) (hf : SchFit s) (hy : SlIn w (· < w.heap.size) (l.map Plc.toD) y) (ha : kind = 3 ∨ kind = 4 → 0 ≤ (evOf env t.name).at_ ∧ (evOf env t.name).at_ < l.length)
    (hv : ∀ c ∈ [t, u], ∀ W, Below w.heap.size w W → Calls Tryz.prog 65 #[.slice z.a env.length z.cap, .agg #[.int .i64 c.kind, .string ⟨c.name.toArray⟩, .int .i64 c.n]] W fun e w' => e = .returned (.int .i64 (evOf env c.name).at_) ∧ Below W.heap.size W w') :
    Calls Tryz.prog 33 #[stV s x l y, .slice z.a env.length z.cap, ndV (.mk kind name n [t, u] binds fl, fa)] w fun e w' => e = .returned (.bool (holdsF s l env (.mk kind name n [t, u] binds fl))) ∧ Below w.heap.size w w' := by
  have hb := hdW_below w s x l y env z (.mk kind name n [t, u] binds fl) fa
  obtain ⟨hb1, hb2, hb3⟩ := hdW_box w s x l y env z (.mk kind name n [t, u] binds fl) fa
  have hr : holdsF s l env (.mk kind name n [t, u] binds fl) = atomHolds s l kind (evOf env t.name).at_ (evOf env u.name).at_ := by rw [holdsF_two, if_neg (by omega), if_neg (by omega), if_neg (by omega)]
  rw [hr]
  obtain ⟨gs, hgs, hen, hca⟩ := atom_call kind hk
  obtain ⟨g1, _, _, g4, _⟩ := hx.flat Trm.flatT
  obtain ⟨ta, tb⟩ := g1 (by simp)
  obtain ⟨t0, t1, t2⟩ := g4.three 0 (by simp) rfl
  obtain ⟨u0, u1, u2⟩ := g4.three 1 (by simp) rfl
  obtain ⟨mb, mo, q1, q2, q3⟩ := hg.atoms
  have HV1 := Lib.hid (hv t (by simp))
  have HV2 := Lib.hid (hv u (by simp))
  have HCA := Lib.hid (fun (W : World) (hW : Below w.heap.size w W) => hca s x l y (evOf env t.name).at_ (evOf env u.name).at_ W (hs.later hW hW.size) hf (hy.later hW hW.size) ha)
  simp only [List.getElem_cons_zero, List.getElem_cons_succ, Nat.zero_mul, Nat.add_zero, Nat.one_mul] at t0 t1 t2 u0 u1 u2
  have HK : Hid (∀ W', Below (hdW w s x l y env z (.mk kind name n [t, u] binds fl) fa).heap.size (hdW w s x l y env z (.mk kind name n [t, u] binds fl) fa) W' →       W'.cell? ⟨w.heap.size, 0, none⟩ = some (.slice x.slots.a s.slots.length x.slots.cap) ∧ W'.cell? ⟨w.heap.size, 1, none⟩ = some (.slice x.rooms.a s.rooms.length x.rooms.cap) ∧ W'.cell? ⟨w.heap.size, 2, none⟩ = some (.slice x.people.a s.people.length x.people.cap) ∧ W'.cell? ⟨w.heap.size, 3, none⟩ = some (.slice x.groups.a s.groups.length x.groups.cap) ∧ W'.cell? ⟨w.heap.size, 4, none⟩ = some (.slice x.lessons.a s.lessons.length x.lessons.cap) ∧ W'.cell? ⟨w.heap.size, 5, none⟩ = some (.slice y.a l.length y.cap) ∧
      W'.cell? ⟨w.heap.size + 1, 0, none⟩ = some (.slice z.a env.length z.cap) ∧ W'.cell? ⟨w.heap.size + 1 + 1, 3, none⟩ = some (.slice fa.t.a 2 fa.t.cap) ∧
      W'.cell? ⟨fa.t.b, fa.t.o, none⟩ = some (.int .i64 t.kind) ∧ W'.cell? ⟨fa.t.b, fa.t.o + 1, none⟩ = some (.string ⟨t.name.toArray⟩) ∧ W'.cell? ⟨fa.t.b, fa.t.o + 2, none⟩ = some (.int .i64 t.n) ∧
      W'.cell? ⟨fa.t.b, fa.t.o + 3, none⟩ = some (.int .i64 u.kind) ∧ W'.cell? ⟨fa.t.b, fa.t.o + 3 + 1, none⟩ = some (.string ⟨u.name.toArray⟩) ∧ W'.cell? ⟨fa.t.b, fa.t.o + 3 + 2, none⟩ = some (.int .i64 u.n)) :=
    Lib.hid (fun W' hW => by
      have hw : Below w.heap.size w W' := hb.trans (hW.mono hb.size)
      have c1 := (hW.block w.heap.size (Array.getElem?_eq_some_iff.1 hb1).1).trans hb1
      have c2 := (hW.block (w.heap.size + 1) (Array.getElem?_eq_some_iff.1 hb2).1).trans hb2
      have c3 := (hW.block (w.heap.size + 1 + 1) (Array.getElem?_eq_some_iff.1 hb3).1).trans hb3
      refine ⟨cell_of_heap c1 rfl, cell_of_heap c1 rfl, cell_of_heap c1 rfl, cell_of_heap c1 rfl, cell_of_heap c1 rfl, cell_of_heap c1 rfl, cell_of_heap c2 rfl, cell_of_heap c3 rfl, ?_, ?_, ?_, ?_, ?_, ?_⟩
      · exact (hw.cell (p := ⟨fa.t.b, fa.t.o, none⟩) tb).trans t0
      · exact (hw.cell (p := ⟨fa.t.b, fa.t.o + 1, none⟩) tb).trans t1
      · exact (hw.cell (p := ⟨fa.t.b, fa.t.o + 2, none⟩) tb).trans t2
      · exact (hw.cell (p := ⟨fa.t.b, fa.t.o + 3, none⟩) tb).trans u0
      · exact (hw.cell (p := ⟨fa.t.b, fa.t.o + 3 + 1, none⟩) tb).trans u1
      · exact (hw.cell (p := ⟨fa.t.b, fa.t.o + 3 + 2, none⟩) tb).trans u2)
  have HB := Lib.hid hb
  have hm0 := (hb.cell (World.block_lt_of_cell? w _ q1)).trans q1
  have hl := q3 (hdW w s x l y env z (.mk kind name n [t, u] binds fl) fa) ((hb.block _ (Array.getElem?_eq_some_iff.1 q2).1).trans q2) (.int .i64 kind) ⟨_, (show I64 kind by unfold I64; omega), rfl⟩
  have hkd : (decide (3 ≤ kind) && decide (kind ≤ 8)) = true := by simp; omega
  replace hl := hl.trans (show Result.ok (Value.tuple #[atomFn kind, .bool (decide (3 ≤ kind) && decide (kind ≤ 8))]) _ = Result.ok (Value.tuple #[.func (.func gs) #[] #[], .bool true]) _ by rw [hgs, hkd])
  have k1 : (kind == 1) = false := by simp; omega
  have k2 : (kind == 2) = false := by simp; omega
  have k9 : (kind == 9) = false := by simp; omega
  have k10 : (kind == 10) = false := by simp; omega
  have k11 : (kind == 11) = false := by simp; omega
  have k12 : (kind == 12) = false := by simp; omega
  have k13 : (kind == 13) = false := by simp; omega
  have hmf : ∀ (fn : Fn) (first cap : Array Value) (w : World), (Instr.makeFunc fn first cap).run Tryz.prog w = .ok (.func fn first cap) w := fun _ _ _ _ => rfl
  clear hg hx hs hf hy ha hk hkd hv hb hb1 hb2 hb3 hr hgs hca g1 g4 tb t0 t1 t2 u0 u1 u2 q1 q2 q3
  unfold stV at HCA ⊢
  generalize (evOf env t.name).at_ = va at HV1 HCA ⊢
  generalize (evOf env u.name).at_ = vb at HV2 HCA ⊢
  generalize atomHolds s l kind va vb = res at HCA ⊢
  simp only [hdW, ndV, FrmA.cells, SlA.val, Frm.kind, Frm.name, Frm.n, Frm.terms, Frm.binds, Frm.l, List.length_cons, List.length_nil, Nat.zero_add, Nat.reduceAdd, ta] at HB HK hl hm0 ⊢
  go_enter Tryz.func33, Tryz.ntmps33
  go_wp2_with fail
  go_region_held3 (fun w' => w'.cell? ⟨w.heap.size, 0, none⟩ = some (.slice x.slots.a s.slots.length x.slots.cap) ∧ w'.cell? ⟨w.heap.size, 1, none⟩ = some (.slice x.rooms.a s.rooms.length x.rooms.cap) ∧ w'.cell? ⟨w.heap.size, 2, none⟩ = some (.slice x.people.a s.people.length x.people.cap) ∧ w'.cell? ⟨w.heap.size, 3, none⟩ = some (.slice x.groups.a s.groups.length x.groups.cap) ∧ w'.cell? ⟨w.heap.size, 4, none⟩ = some (.slice x.lessons.a s.lessons.length x.lessons.cap) ∧ w'.cell? ⟨w.heap.size, 5, none⟩ = some (.slice y.a l.length y.cap) ∧ w'.cell? ⟨w.heap.size + 1, 0, none⟩ = some (.slice z.a env.length z.cap) ∧ w'.cell? ⟨w.heap.size + 1 + 1, 3, none⟩ = some (.slice (some ⟨fa.t.b, fa.t.o, none⟩) 2 fa.t.cap) ∧ w'.cell? ⟨fa.t.b, fa.t.o, none⟩ = some (.int .i64 t.kind) ∧ w'.cell? ⟨fa.t.b, fa.t.o + 1, none⟩ = some (.string ⟨t.name.toArray⟩) ∧ w'.cell? ⟨fa.t.b, fa.t.o + 2, none⟩ = some (.int .i64 t.n) ∧ w'.cell? ⟨fa.t.b, fa.t.o + 3, none⟩ = some (.int .i64 u.kind) ∧ w'.cell? ⟨fa.t.b, fa.t.o + 3 + 1, none⟩ = some (.string ⟨u.name.toArray⟩) ∧ w'.cell? ⟨fa.t.b, fa.t.o + 3 + 2, none⟩ = some (.int .i64 u.n)) ((refine HK.out _ ?_; first | exact HN3.out | exact HN2.out | exact HN1.out | exact (Below.refl _ _).drew | fail)) (first
    | (go_at_call 65; refine (HV2.out _ (HB.out.trans (HN1.out.mono HB.out.size))).mono ?_; rintro e w2 ⟨rfl, hbb⟩; have HN2 := Lib.hid (HN1.out.trans (hbb.mono HN1.out.size)); clear hbb)
    | (go_at_call 65; refine (HV1.out _ HB.out.drew).mono ?_; rintro e w1 ⟨rfl, hbb⟩; have HN1 := Lib.hid (Below.trans (Below.drew (Below.refl _ _)) hbb); clear hbb)
    | (refine (HCA.out _ (HB.out.trans (HN2.out.mono HB.out.size))).mono ?_; rintro e w3 ⟨rfl, hbb⟩; have HN3 := Lib.hid (HN2.out.trans (hbb.mono HN2.out.size)); clear hbb))
  all_goals
    go_wp2_with fail
    go_ret
    exact ⟨rfl, HB.out.trans (HN3.out.mono HB.out.size)⟩
end Go.Proofs.YtlfjjokcbeaekaaGreatDoor
