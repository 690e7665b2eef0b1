/- Joined texts: RefM, RefF, EvD, Box, GWk. -/
import Derived.Test.YtjjkfgjnadaheaaGreatDoorB32
import Derived.Deep.RegionHeld3
import Derived.Test.YtjjkfgjnadaheaaGreatDoorB14
import Derived.Test.YtjjkfgjnadaheaaGreatDoorB09
import Derived.Test.YtjjkfgjnadaheaaGreatDoorB31

/- The reference's Count, Many and Broad: they answer a number that is not great. -/
namespace Go.Proofs.YtjjkfgjnadaheaaGreatDoor
open Go.RowKit Go.Chalk
end Go.Proofs.YtjjkfgjnadaheaaGreatDoor
/- The reference's Size and Few of a formula: they answer. -/
namespace Go.Proofs.YtjjkfgjnadaheaaGreatDoor
open Go.RowKit Go.Chalk
def FrmBox (W : World) (b : Nat) (f : Frm) (y : FrmA) : Prop := W.heap[b]? = some (.cells (y.cells f).toArray 34 (0, 0))
theorem FrmBox.below {W W' : World} {b : Nat} {f : Frm} {y : FrmA} (h : FrmBox W b f y) (hb : Below W.heap.size W W') : FrmBox W' b f y := (hb.block _ (Array.getElem?_eq_some_iff.1 h).1).trans h
theorem FrmBox.lt {W : World} {b : Nat} {f : Frm} {y : FrmA} (h : FrmBox W b f y) : b < W.heap.size := (Array.getElem?_eq_some_iff.1 h).1
theorem FrmBox.cells {W : World} {b : Nat} {f : Frm} {y : FrmA} (h : FrmBox W b f y) : W.cell? ⟨b, 0, none⟩ = some (.int .i64 f.kind) /\ W.cell? ⟨b, 1, none⟩ = some (.string ⟨f.name.toArray⟩) /\ W.cell? ⟨b, 2, none⟩ = some (.int .i64 f.n) /\ W.cell? ⟨b, 3, none⟩ = some (.slice y.t.a f.terms.length y.t.cap) /\ W.cell? ⟨b, 4, none⟩ = some (.slice y.b.a f.binds.length y.b.cap) /\ W.cell? ⟨b, 5, none⟩ = some (.slice y.l.a f.l.length y.l.cap) :=
  ⟨cell_of_heap h rfl, cell_of_heap h rfl, cell_of_heap h rfl, cell_of_heap h rfl, cell_of_heap h rfl, cell_of_heap h rfl⟩

set_option maxRecDepth 100000 in
set_option maxHeartbeats 2000000 in
theorem rsize_any (m : Nat) : ∀ (f : Frm) (y : FrmA) (w : World), f.size <= m -> f.size <= 2000000 -> FrmIn w (· < w.heap.size) f y ->
    Calls Tryz.prog 27 #[ndV (f, y)] w fun e w' => ∃ n : Int, e = .returned (.int .i64 n) /\ Below w.heap.size w w' := by
  induction m with
  | zero => intro f _ _ h; have := f.size_pos; omega
  | succ m ih =>
    rintro ⟨kind, name, n, terms, binds, fl⟩ y w hm hsz hy
    rw [Frm.size] at hm hsz
    have hll := length_le_fsizes fl
    have hba : Below w.heap.size w (w.alloc (.cells (y.cells (.mk kind name n terms binds fl)).toArray 34)) := (Below.refl _ _).alloc (Nat.le_refl _) _
    have hby : FrmBox (w.alloc (.cells (y.cells (.mk kind name n terms binds fl)).toArray 34)) w.heap.size (.mk kind name n terms binds fl) y := by unfold FrmBox; rw [heap_get, if_pos rfl]
    have HFI : Hid (∀ (j : Nat) (hj : j < fl.length), ∃ y1 : FrmA, FrmIn w (· < w.heap.size) fl[j] y1 /\ CellsAt w y.l.b (y.l.o + j * 6) (y1.cells fl[j])) := Lib.hid (fun j hj => hy.l.frm j hj)
    have HFS : Hid (SlAt (· < w.heap.size) y.l.a y.l.b y.l.o fl.length) := Lib.hid (by have := hy.l.at_; rw [List.length_map] at this; exact this)
    have HIH := Lib.hid (fun (j : Nat) (hj : j < fl.length) (y1 : FrmA) (W : World) (hW : Below w.heap.size w W) (h1 : FrmIn w (· < w.heap.size) fl[j] y1) => ih fl[j] y1 W (by have := size_le_fsizes fl j hj; omega) (by have := size_le_fsizes fl j hj; omega) (h1.later hW hW.size))
    have HB := Lib.hid (And.intro hba hby)
    clear ih hy hba hby
    simp only [ndV, FrmA.cells, SlA.val, Frm.kind, Frm.name, Frm.n, Frm.terms, Frm.binds, Frm.l] at HB ⊢
    go_enter Tryz.func27, Tryz.ntmps27
    go_wp2_with fail
    go_loopw [3, 4] (fun nn i wr => ∃ (j : Nat) (q : Int), j <= fl.length /\ i = .int .i64 j /\ nn = .int .i64 q /\ Below w.heap.size w wr /\ Hid (FrmBox wr w.heap.size (.mk kind name n terms binds fl) y)) (fun _ i _ => fl.length - (intOf i).toNat)
    case atStart => exact ⟨0, 1, Nat.zero_le _, rfl, rfl, HB.out.1, Lib.hid HB.out.2⟩
    case round =>
      obtain ⟨j, q, hj, rfl, rfl, hb, HBX⟩ := hrel
      have HB0 := Lib.hid hb
      obtain ⟨_, _, _, _, _, b5⟩ := HBX.out.cells
      simp only [Frm.l] at b5
      by_cases hlt : j < fl.length
      · obtain ⟨y1, hy1, hy2⟩ := HFI.out j hlt
        obtain ⟨hxa, hFb⟩ := HFS.out (by omega)
        have HCL := Lib.hid (HIH.out j hlt y1 wr hb hy1)
        obtain ⟨e0, e1, e2, e3, e4, e5⟩ := (hy2.agree (agree_of_below hb) hFb).six
        rw [hxa] at b5
        clear hy1 hy2 hFb hxa hb
        generalize fl[j] = fe at HCL e0 e1 e2 e3 e4 e5
        obtain ⟨kind1, name1, n1, terms1, binds1, fl1⟩ := fe
        simp only [ndV, FrmA.cells, SlA.val, Frm.kind, Frm.name, Frm.n, Frm.terms, Frm.binds, Frm.l] at HCL e0 e1 e2 e3 e4 e5
        go_wp2_with fail
        refine HCL.out.mono ?_
        rintro e w1 ⟨q1, rfl, hb1⟩
        have HC1 := Lib.hid (And.intro (HB0.out.trans (hb1.mono HB0.out.size)) (HBX.out.below hb1))
        clear hb1 e0 e1 e2 e3 e4 e5 b5
        go_wp2_with fail
        exact ⟨⟨j + 1, _, by omega, by go_num, rfl, HC1.out.1, Lib.hid HC1.out.2⟩, by simp [intOf]; omega⟩
      · clear hb
        go_wp2_with fail
        go_ret
        exact ⟨q, rfl, HB0.out⟩

end Go.Proofs.YtjjkfgjnadaheaaGreatDoor
/- eval: may. -/
namespace Go.Proofs.YtjjkfgjnadaheaaGreatDoor
open Go.RowKit Go.Chalk
set_option maxRecDepth 100000 in
set_option maxHeartbeats 2000000 in
theorem may1_any (ev : Ev) (s : Schl) (x : SchA) (q : Nat) (w : World) (hI : ItoaAt) (hsm : SchSmall s) (hs : SchIn w (· < w.heap.size) s x) (hq : SchBox w q s x) :
    Calls Tryz.prog 97 #[.agg #[.string ⟨ev.name.toArray⟩, .int .i64 ev.sort, .int .i64 ev.at_], .pointer (some ⟨q, 0, none⟩)] w (Answers w (evOdd s ev)) := by
  obtain ⟨name, sort, at_⟩ := ev
  have hba : Below w.heap.size w (w.alloc (.cells #[.string ⟨name.toArray⟩, .int .i64 sort, .int .i64 at_] 76)) := (Below.refl _ _).alloc (Nat.le_refl _) _
  have HB := Lib.hid hba.drew
  have hct := count_any s x sort _ hI (hs.later hba.drew hba.drew.size) hsm
  obtain ⟨c0, c1, c2, c3, c4⟩ := (hq.below hba).cells
  have HQ : Hid (∀ W', Below (w.alloc (.cells #[.string ⟨name.toArray⟩, .int .i64 sort, .int .i64 at_] 76)).drew.heap.size (w.alloc (.cells #[.string ⟨name.toArray⟩, .int .i64 sort, .int .i64 at_] 76)).drew W' -> W'.cell? ⟨w.heap.size, 2, none⟩ = some (.int .i64 at_)) :=
    Lib.hid (fun W' hb => by
      have h0 : (w.alloc (.cells #[.string ⟨name.toArray⟩, .int .i64 sort, .int .i64 at_] 76)).drew.heap[w.heap.size]? = some (.cells #[.string ⟨name.toArray⟩, .int .i64 sort, .int .i64 at_] 76 (0, 0)) := heap_alloc_new' w _
      exact cell_of_heap ((hb.block w.heap.size (Array.getElem?_eq_some_iff.1 h0).1).trans h0) rfl)
  have hcl := count_le hsm sort
  have HR : Hid (evOdd s ⟨name, sort, at_⟩ = (decide (at_ < 0) || decide ((schCount s sort : Int) <= at_))) := Lib.hid rfl
  clear hba hs hq hI hsm
  generalize evOdd s ⟨name, sort, at_⟩ = res at HR ⊢
  generalize schCount s sort = k at hct hcl HR
  simp only [SchA.cells, SlA.val] at hct ⊢
  have HCT := Lib.hid hct
  clear hct
  by_cases h0 : at_ < 0
  · have HRR : Hid (res = true) := Lib.hid (by rw [HR.out]; simp [h0])
    clear HR HCT
    go_enter Tryz.func97, Tryz.ntmps97
    go_wp2_with fail
    go_quiet (fail)
    go_wp2_with fail
    go_ret
    exact ⟨ret_bool (by rw [HRR.out]), ((Below.refl _ _).alloc (Nat.le_refl _) _).trans ⟨rfl, rfl, rfl, Nat.le_refl _, fun _ _ => rfl⟩⟩
  · have h0' : decide (at_ < 0) = false := by simpa using h0
    have HRR : Hid (res = decide ((k : Int) <= at_)) := Lib.hid (by rw [HR.out, h0', Bool.false_or])
    clear HR h0
    go_enter Tryz.func97, Tryz.ntmps97
    go_wp2_with fail
    go_region_with (go_at_call 98; refine HCT.out.mono ?_; rintro e w' ⟨rfl, hb⟩; have q2 := HQ.out _ hb; have HW := Lib.hid hb; clear hb)
    all_goals
      go_wp2_with fail
      go_ret
      exact ⟨ret_bool (by rw [HRR.out]), HB.out.trans (HW.out.mono HB.out.size)⟩
theorem env_odd (l : List Ev) (y : SlA) (s : Schl) (x : SchA) (q : Nat) (w : World) (hI : ItoaAt) (hsm : SchSmall s) (hs : SchIn w (· < w.heap.size) s x) (hy : SlIn w (· < w.heap.size) (l.map Ev.toD) y) (hl : l.length <= 2000000) (hq : SchBox w q s x) :
    Calls Tryz.prog 100 #[.slice y.a l.length y.cap, .func (.func 97) #[] #[.pointer (some ⟨q, 0, none⟩)]] w fun e w' => e = .returned (.bool (l.any (evOdd s))) /\ Below w.heap.size w w' := by
  obtain ⟨g1, _, _, g4, _⟩ := hy.flat Ev.flatT
  rw [<- any_range]
  refine containsFunc_Ev 97 #[.pointer (some ⟨q, 0, none⟩)] (fun j => (l[j]?.map (evOdd s)).getD false) l.length (fun j => .string ⟨(l[j]?.map (·.name.toArray)).getD #[]⟩) (fun j => .int .i64 ((l[j]?.map (·.sort)).getD 0)) (fun j => .int .i64 ((l[j]?.map (·.at_)).getD 0)) y.a y.b y.o y.cap w g1 ?_ ?_ (fun _ _ => enters_of Tryz.func97 (by kernel_rfl) rfl _ _) hl
  · intro j hj
    have h := g4.three j hj rfl
    rw [List.getElem?_eq_getElem hj]
    exact h
  · intro j hj W hW
    rw [List.getElem?_eq_getElem hj]
    exact may1_any l[j] s x q W hI hsm (hs.later hW hW.size) (hq.below hW)

set_option maxRecDepth 100000 in
set_option maxHeartbeats 1000000 in
theorem emay_any (s : Schl) (x : SchA) (l : List Ev) (y : SlA) (w : World) (hI : ItoaAt) (hsm : SchSmall s) (hs : SchIn w (· < w.heap.size) s x) (hy : SlIn w (· < w.heap.size) (l.map Ev.toD) y) (hl : l.length <= 1500000) (hmax : ∀ e ∈ l, e.name.length <= 4000000) (hg : GG w) :
    Calls Tryz.prog 52 #[.agg (x.cells s).toArray, .slice y.a l.length y.cap] w fun e w' => e = .returned (.bool (evMay s l)) /\ Below w.heap.size w w' := by
  have hba : Below w.heap.size w (w.alloc (.cells (x.cells s).toArray 28)) := (Below.refl _ _).alloc (Nat.le_refl _) _
  have hbx : SchBox (w.alloc (.cells (x.cells s).toArray 28)) w.heap.size s x := by unfold SchBox; rw [heap_get, if_pos rfl]
  have HBN := Lib.hid (ebinds_any l y _ (hy.later hba hba.size) (by omega))
  have HOD := Lib.hid (fun (W : World) (hW : Below w.heap.size w W) (hq : SchBox W w.heap.size s x) => env_odd l y s x w.heap.size W hI hsm (hs.later hW hW.size) (hy.later hW hW.size) (by omega) hq)
  have HTM := Lib.hid (fun (W : World) (hW : Below w.heap.size w W) (x0 : SlA) (h : SlIn W (· < W.heap.size) ((evBinds l).map Bnd.toD) x0) => tterm_any (evBinds l) x0 ⟨1, [], 0⟩ W h (by simp [evBinds]; exact hl) (fun b hb => by
    unfold evBinds at hb
    obtain ⟨e, he, rfl⟩ := List.mem_map.1 hb
    exact hmax e he) ⟨i64_small (by decide) (by decide), by simp, i64_small (by decide) (by decide)⟩ (hg.below hW))
  have ht : typTerm (evBinds l) ⟨1, [], 0⟩ = if mayA (evBinds l) = false then (0, 1) else (8, 0) := by
    unfold typTerm
    have h1 : termedF ⟨1, [], 0⟩ = true := by decide
    have h2 : sortF (evBinds l) ⟨1, [], 0⟩ = (8, 0) := by unfold sortF; rw [if_pos rfl]
    rw [h1, h2]
    cases mayA (evBinds l) <;> simp
  have hbl : (evBinds l).length = l.length := by simp [evBinds]
  have HBL := Lib.hid hbl
  have HT := Lib.hid ht
  have HR : Hid (evMay s l = (mayA (evBinds l) && !(l.any (evOdd s)))) := Lib.hid rfl
  have HB := Lib.hid (And.intro hba hbx)
  have hmf : ∀ (fn : Fn) (first cap : Array Value) (w : World), (Instr.makeFunc fn first cap).run Tryz.prog w = .ok (.func fn first cap) w := fun _ _ _ _ => rfl
  clear hs hy hg hba hbx hI hsm hmax ht hbl
  generalize evMay s l = res at HR ⊢
  generalize l.any (evOdd s) = od at HOD HR
  generalize mayA (evBinds l) = my at HT HR
  generalize typTerm (evBinds l) ⟨1, [], 0⟩ = tt at HTM HT
  simp only [SchA.cells, SlA.val] at HBN HB ⊢
  go_enter Tryz.func52, Tryz.ntmps52
  go_wp2_with fail
  refine HBN.out.mono ?_
  rintro e w1 ⟨v, rfl, hon, hb1⟩
  obtain ⟨x0, rfl, hx0⟩ := hon.sl (by rw [widths_map Bnd.flatT, List.length_map])
  have HB1 := Lib.hid (And.intro (HB.out.1.trans (hb1.mono HB.out.1.size)) (HB.out.2.below hb1))
  have HTT := Lib.hid (HTM.out w1 HB1.out.1 x0 hx0)
  rw [List.length_map]
  rw [HBL.out] at HTT ⊢
  clear hon hx0 hb1
  simp only [SlA.val]
  go_wp2_with fail
  refine HTT.out.mono ?_
  rintro e w2 ⟨rfl, hb2⟩
  have HB2 := Lib.hid (And.intro (HB1.out.1.trans (hb2.mono HB1.out.1.size)) (HB1.out.2.below hb2))
  have HOW := Lib.hid (HOD.out w2 HB2.out.1 HB2.out.2)
  clear hb2
  cases my
  · obtain rfl : tt = (0, 1) := HT.out
    go_wp2_with fail
    go_ret
    exact ⟨ret_bool (by rw [HR.out]; rfl), HB2.out.1⟩
  · obtain rfl : tt = (8, 0) := HT.out
    go_wp2_with fail
    refine HOW.out.mono ?_
    rintro e w3 ⟨rfl, hb3⟩
    have HB3 := Lib.hid (HB2.out.1.trans (hb3.mono HB2.out.1.size))
    clear hb3
    go_wp2_with fail
    go_ret
    exact ⟨ret_bool (by rw [HR.out]; simp), HB3.out⟩
end Go.Proofs.YtjjkfgjnadaheaaGreatDoor
/- A list that grows in a box, while its elements lead into memory that is taken over round by round. -/
namespace Go.Chalk
open Go.RowKit
variable {P : Program}
def BoxOwn (W : World) (H : Nat) (t e : TypeId) (sz lo : Nat) (xs : List D) (T : Nat -> Prop) : Prop :=
  ∃ (v : Value) (r : Option Nat), W.heap[H]? = some (.cells #[v] t (0, 0)) /\ T H /\ (∀ k, r = some k -> T k /\ k ≠ H) /\ (∀ k, T k -> lo <= k /\ k < W.heap.size) /\ Chalk.Own W (fun k => T k /\ k ≠ H /\ r ≠ some k) e sz v r xs
theorem BoxOwn.kept {W W' : World} {H : Nat} {t e : TypeId} {sz lo : Nat} {xs : List D} {T S : Nat -> Prop} (h : BoxOwn W H t e sz lo xs T) (hm : Mod S W W') (hS : ∀ k, S k -> ¬ T k) : BoxOwn W' H t e sz lo xs T := by
  obtain ⟨v, r, h1, h2, h3, h4, h5⟩ := h
  exact ⟨v, r, heap_kept h1 hm (fun h => hS _ h h2), h2, h3, fun k hk => ⟨(h4 k hk).1, Nat.lt_of_lt_of_le (h4 k hk).2 hm.size⟩, h5.kept hm (fun k hk hk' => hS k hk' hk.1) (fun k hk hk' => hS k hk' (h3 k hk).1)⟩
theorem BoxOwn.take {W : World} {H : Nat} {t e : TypeId} {sz lo : Nat} {xs : List D} {T S : Nat -> Prop} (h : BoxOwn W H t e sz lo xs T) (hS : ∀ k, S k -> lo <= k /\ k < W.heap.size /\ ¬ T k) : BoxOwn W H t e sz lo xs (fun k => T k ∨ S k) := by
  obtain ⟨v, r, h1, h2, h3, h4, h5⟩ := h
  refine ⟨v, r, h1, .inl h2, fun k hk => ⟨.inl (h3 k hk).1, (h3 k hk).2⟩, fun k hk => ?_, h5.widen (fun k hk => ⟨.inl hk.1, hk.2⟩) (fun k hk hk' => hk'.2.2 hk) (fun k hk => ?_)⟩
  · rcases hk with hk | hk
    · exact h4 k hk
    · exact ⟨(hS k hk).1, (hS k hk).2.1⟩
  · rcases hk.1 with hk | hk
    · exact (h4 k hk).2
    · exact (hS k hk).2.1
theorem BoxOwn.read {W : World} {H : Nat} {t e : TypeId} {sz lo : Nat} {xs : List D} {T : Nat -> Prop} (h : BoxOwn W H t e sz lo xs T) (hw : widths xs = xs.length * sz) : ∃ x : SlA, W.heap[H]? = some (.cells #[x.val xs.length] t (0, 0)) /\ SlIn W T xs x := by
  obtain ⟨v, r, h1, h2, h3, h4, h5⟩ := h
  obtain ⟨x, e, hx⟩ := DAt.sl_iff.1 (h5.read (G := T) (fun k hk => hk.1) (fun k hk => (h3 k hk).1) hw)
  simp only [List.cons.injEq, and_true] at e
  exact ⟨x, by rw [h1, e], hx⟩
theorem BoxOwn.low {W : World} {H : Nat} {t e : TypeId} {sz lo : Nat} {xs : List D} {T : Nat -> Prop} (h : BoxOwn W H t e sz lo xs T) : ∀ k, T k -> lo <= k /\ k < W.heap.size := by
  obtain ⟨_, _, _, _, _, h4, _⟩ := h; exact h4
end Go.Chalk
/- week: At, In. (written by tools/gen_gwk.py) -/
namespace Go.Proofs.YtjjkfgjnadaheaaGreatDoor
open Go.RowKit Go.Chalk
attribute [local go_sem] Oper.semAt_some
theorem mul_fit (a b : Nat) (ha : a <= 2000000) (hb : b <= 2000000) (i : Int) (h1 : 0 <= i) (h2 : i <= a) : 0 <= i * (b : Int) /\ i * (b : Int) <= 4000000000000 := ⟨Int.mul_nonneg h1 (by omega), by
  have h5 : i * (b : Int) <= 2000000 * 2000000 := Int.mul_le_mul (by omega) (by omega) (by omega) (by omega)
  omega⟩

set_option maxRecDepth 100000 in
set_option maxHeartbeats 1000000 in
theorem wat_any (s : Schl) (x : SchA) (i j : Int) (w : World) (hs1 : s.lessons.length <= 2000000) (hs2 : s.slots.length <= 2000000) (hs3 : s.rooms.length <= 2000000) :
    Calls Tryz.prog 44 #[.agg (x.cells s).toArray, .int .i64 i, .int .i64 j] w fun e w' => e = .returned (.int .i64 (wkAt s i j)) /\ Below w.heap.size w w' := by
  have HWI := Lib.hid (fun n k W => wwithin_any n k W)
  simp only [SchA.cells, SlA.val]
  unfold wkAt
  by_cases hi : 0 <= i /\ i < (s.lessons.length : Int)
  · have hi' : (decide (0 <= i) && decide (i < (s.lessons.length : Int))) = true := by simpa using hi
    by_cases hj : 0 <= j /\ j < (s.slots.length : Int)
    · have hj' : (decide (0 <= j) && decide (j < (s.slots.length : Int))) = true := by simpa using hj
      rw [if_pos ⟨hi, hj⟩]
      have hmu := mul_fit _ _ hs1 hs2 i hi.1 (by omega)
      have hmv := mul_fit _ _ hs1 hs2 s.lessons.length (by omega) (by omega)
      have hm0 := hmu.1
      have hm1 := hmu.2
      have hv0 := hmv.1
      have hv1 := hmv.2
      have hj0 := hj.1
      have hj1 := hj.2
      clear hi hj hmu hmv
      generalize hml : i * (s.slots.length : Int) = ml at hm0 hm1 ⊢
      clear hv0 hv1
      go_enter Tryz.func44, Tryz.ntmps44
      go_wp2_with (first | (go_at_call 93; refine (HWI.out _ _ _).mono ?_; rintro e w' ⟨rfl, rfl⟩; rw [hi']) | (go_at_call 93; refine (HWI.out _ _ _).mono ?_; rintro e w' ⟨rfl, rfl⟩; rw [hj']) | fail)
      go_ret
      exact ⟨rfl, (Below.refl _ _).alloc (Nat.le_refl _) _⟩
    · have hj' : (decide (0 <= j) && decide (j < (s.slots.length : Int))) = false := by
        rw [Bool.eq_false_iff]; intro h; simp at h; exact hj h
      rw [if_neg (fun h => hj h.2)]
      clear hi hj
      go_enter Tryz.func44, Tryz.ntmps44
      go_wp2_with (first | (go_at_call 93; refine (HWI.out _ _ _).mono ?_; rintro e w' ⟨rfl, rfl⟩; rw [hi']) | (go_at_call 93; refine (HWI.out _ _ _).mono ?_; rintro e w' ⟨rfl, rfl⟩; rw [hj']) | fail)
      go_ret
      exact ⟨rfl, (Below.refl _ _).alloc (Nat.le_refl _) _⟩
  · have hi' : (decide (0 <= i) && decide (i < (s.lessons.length : Int))) = false := by
      rw [Bool.eq_false_iff]; intro h; simp at h; exact hi h
    rw [if_neg (fun h => hi h.1)]
    have hj' : True := trivial
    clear hi
    go_enter Tryz.func44, Tryz.ntmps44
    go_wp2_with (first | (go_at_call 93; refine (HWI.out _ _ _).mono ?_; rintro e w' ⟨rfl, rfl⟩; rw [hi']) | fail)
    go_ret
    exact ⟨rfl, (Below.refl _ _).alloc (Nat.le_refl _) _⟩

set_option maxRecDepth 100000 in
set_option maxHeartbeats 1000000 in
theorem win_any (s : Schl) (x : SchA) (i j : Int) (w : World) (hs1 : s.lessons.length <= 2000000) (hs2 : s.slots.length <= 2000000) (hs3 : s.rooms.length <= 2000000) :
    Calls Tryz.prog 46 #[.agg (x.cells s).toArray, .int .i64 i, .int .i64 j] w fun e w' => e = .returned (.int .i64 (wkIn s i j)) /\ Below w.heap.size w w' := by
  have HWI := Lib.hid (fun n k W => wwithin_any n k W)
  simp only [SchA.cells, SlA.val]
  unfold wkIn
  by_cases hi : 0 <= i /\ i < (s.lessons.length : Int)
  · have hi' : (decide (0 <= i) && decide (i < (s.lessons.length : Int))) = true := by simpa using hi
    by_cases hj : 0 <= j /\ j < (s.rooms.length : Int)
    · have hj' : (decide (0 <= j) && decide (j < (s.rooms.length : Int))) = true := by simpa using hj
      rw [if_pos ⟨hi, hj⟩]
      have hmu := mul_fit _ _ hs1 hs3 i hi.1 (by omega)
      have hmv := mul_fit _ _ hs1 hs2 s.lessons.length (by omega) (by omega)
      have hm0 := hmu.1
      have hm1 := hmu.2
      have hv0 := hmv.1
      have hv1 := hmv.2
      have hj0 := hj.1
      have hj1 := hj.2
      clear hi hj hmu hmv
      generalize hml : i * (s.rooms.length : Int) = ml at hm0 hm1 ⊢
      generalize hmv : (s.lessons.length : Int) * (s.slots.length : Int) = mv at hv0 hv1 ⊢
      go_enter Tryz.func46, Tryz.ntmps46
      go_wp2_with (first | (go_at_call 93; refine (HWI.out _ _ _).mono ?_; rintro e w' ⟨rfl, rfl⟩; rw [hi']) | (go_at_call 93; refine (HWI.out _ _ _).mono ?_; rintro e w' ⟨rfl, rfl⟩; rw [hj']) | fail)
      go_ret
      exact ⟨rfl, (Below.refl _ _).alloc (Nat.le_refl _) _⟩
    · have hj' : (decide (0 <= j) && decide (j < (s.rooms.length : Int))) = false := by
        rw [Bool.eq_false_iff]; intro h; simp at h; exact hj h
      rw [if_neg (fun h => hj h.2)]
      clear hi hj
      go_enter Tryz.func46, Tryz.ntmps46
      go_wp2_with (first | (go_at_call 93; refine (HWI.out _ _ _).mono ?_; rintro e w' ⟨rfl, rfl⟩; rw [hi']) | (go_at_call 93; refine (HWI.out _ _ _).mono ?_; rintro e w' ⟨rfl, rfl⟩; rw [hj']) | fail)
      go_ret
      exact ⟨rfl, (Below.refl _ _).alloc (Nat.le_refl _) _⟩
  · have hi' : (decide (0 <= i) && decide (i < (s.lessons.length : Int))) = false := by
      rw [Bool.eq_false_iff]; intro h; simp at h; exact hi h
    rw [if_neg (fun h => hi h.1)]
    have hj' : True := trivial
    clear hi
    go_enter Tryz.func46, Tryz.ntmps46
    go_wp2_with (first | (go_at_call 93; refine (HWI.out _ _ _).mono ?_; rintro e w' ⟨rfl, rfl⟩; rw [hi']) | fail)
    go_ret
    exact ⟨rfl, (Below.refl _ _).alloc (Nat.le_refl _) _⟩
end Go.Proofs.YtjjkfgjnadaheaaGreatDoor
