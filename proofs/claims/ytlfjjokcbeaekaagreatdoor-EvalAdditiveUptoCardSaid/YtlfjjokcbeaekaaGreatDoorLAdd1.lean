/- Joined texts: RefR. -/
import Derived.Test.YtlfjjokcbeaekaaGreatDoorB33
import Derived.Test.YtlfjjokcbeaekaaGreatDoorB30
import Derived.Deep.RegionHeld3

/- The reference's Great and FewRules: they answer. (written by tools/gen_refr.py) -/
namespace Go.Proofs.YtlfjjokcbeaekaaGreatDoor
open Go.RowKit Go.Chalk

set_option maxRecDepth 100000 in
set_option maxHeartbeats 4000000 in
theorem rgreat_any (s : Schl) (x : SchA) (l : List Rul) (y : SlA) (w : World) (hsm : SchSmall s) (hs : SchIn w (· < w.heap.size) s x) (hy : SlIn w (· < w.heap.size) (l.map Rul.toD) y) (hl : l.length ≤ 2000000) (hf : ∀ r ∈ l, RulFit r) :
    Calls Tryz.prog 36 #[.agg (x.cells s).toArray, .slice y.a l.length y.cap] w fun e w' => SomeBool e ∧ Below w.heap.size w w' := by
  have hba : Below w.heap.size w (w.alloc (.cells (x.cells s).toArray 28)) := (Below.refl _ _).alloc (Nat.le_refl _) _
  have hbx : SchBox (w.alloc (.cells (x.cells s).toArray 28)) w.heap.size s x := by unfold SchBox; rw [heap_get, if_pos rfl]
  have HIN : Hid (∀ (j : Nat) (hj : j < l.length), ∃ z : RulA, RulIn w (· < w.heap.size) l[j] z ∧ CellsAt w y.b (y.o + j * 10) (z.cells l[j])) := Lib.hid (fun j hj => hy.rul j hj)
  have HSL := Lib.hid hy.at_
  have HMN := Lib.hid (fun (j : Nat) (hj : j < l.length) (z : RulA) (hz : RulIn w (· < w.heap.size) l[j] z) (W : World) (hW : Below w.heap.size w W) => rmany_any s x l[j].each z.each W (hs.later hW hW.size) hsm (hz.each.later hW hW.size) (by have := (hf _ (List.getElem_mem hj)).len; omega))
  have HBR := Lib.hid (fun (j : Nat) (hj : j < l.length) (z : RulA) (hz : RulIn w (· < w.heap.size) l[j] z) (W : World) (hW : Below w.heap.size w W) => rbroad_any s x hsm l[j].body.size l[j].body z.body W (Nat.le_refl _) (hf _ (List.getElem_mem hj)).body.size (fun g hg => ((hf _ (List.getElem_mem hj)).body.nodes g hg).2.1) (hs.later hW hW.size) (hz.body.later hW hW.size))
  have HB := Lib.hid (And.intro hba hbx)
  clear hs hy hf hba hbx hsm
  simp only [SchA.cells, SlA.val] at HB HMN HBR ⊢
  go_enter Tryz.func36, Tryz.ntmps36
  go_wp2_with fail
  go_loopw [5, 6, 7] (fun nn ww i wr => ∃ (j : Nat) (n wd : Int), j ≤ l.length ∧ i = .int .i64 j ∧ nn = .int .i64 n ∧ ww = .int .i64 wd ∧ 0 ≤ n ∧ n ≤ 2097152 ∧ 0 ≤ wd ∧ wd ≤ 2097152 ∧ Hid (Below w.heap.size w wr) ∧ Hid (SchBox wr w.heap.size s x)) (fun _ _ i _ => l.length - (intOf i).toNat)
  case atStart => exact ⟨0, 0, 0, Nat.zero_le _, rfl, rfl, rfl, by omega, by omega, by omega, by omega, Lib.hid HB.out.1, Lib.hid HB.out.2⟩
  case round =>
    obtain ⟨j, n, wd, hj, rfl, rfl, rfl, hn0, hn, hw0, hw, HB0, HBX⟩ := hrel
    by_cases hlt : j < l.length
    · skip
      obtain ⟨z, hz1, hz2⟩ := HIN.out j hlt
      obtain ⟨hxa, hFb⟩ := HSL.out (by rw [List.length_map]; omega)
      have HK0 : Hid (∀ W, Below w.heap.size w W → CellsAt W y.b (y.o + j * 10) (z.cells l[j])) := Lib.hid (fun W hW => hz2.agree (agree_of_below hW) hFb)
      have HM1 := Lib.hid (HMN.out j hlt z hz1)
      have HB1 := Lib.hid (HBR.out j hlt z hz1)
      rw [hxa]
      clear hz1 hz2 hFb
      generalize l[j] = re at HM1 HB1 HK0
      obtain ⟨name, hard, weight, each, ⟨kind, fname, fn, terms, binds, fl⟩⟩ := re
      obtain ⟨ye, yb⟩ := z
      simp only [ndV, RulA.cells, SchA.cells, FrmA.cells, SlA.val, Frm.kind, Frm.name, Frm.n, Frm.terms, Frm.binds, Frm.l] at HM1 HB1 HK0
      have HK : Hid (∀ W, Below wr.heap.size wr W → (W.cell? ⟨w.heap.size, 0, none⟩ = some (.slice x.slots.a s.slots.length x.slots.cap) ∧ W.cell? ⟨w.heap.size, 1, none⟩ = some (.slice x.rooms.a s.rooms.length x.rooms.cap) ∧ W.cell? ⟨w.heap.size, 2, none⟩ = some (.slice x.people.a s.people.length x.people.cap) ∧ W.cell? ⟨w.heap.size, 3, none⟩ = some (.slice x.groups.a s.groups.length x.groups.cap) ∧ W.cell? ⟨w.heap.size, 4, none⟩ = some (.slice x.lessons.a s.lessons.length x.lessons.cap)) ∧ W.cell? ⟨y.b, y.o + j * 10 + 3, none⟩ = some (.slice ye.a each.length ye.cap) ∧ (W.cell? ⟨y.b, y.o + j * 10 + 4, none⟩ = some (.int .i64 kind) ∧ W.cell? ⟨y.b, y.o + j * 10 + 5, none⟩ = some (.string ⟨fname.toArray⟩) ∧ W.cell? ⟨y.b, y.o + j * 10 + 6, none⟩ = some (.int .i64 fn) ∧ W.cell? ⟨y.b, y.o + j * 10 + 7, none⟩ = some (.slice yb.t.a terms.length yb.t.cap) ∧ W.cell? ⟨y.b, y.o + j * 10 + 8, none⟩ = some (.slice yb.b.a binds.length yb.b.cap) ∧ W.cell? ⟨y.b, y.o + j * 10 + 9, none⟩ = some (.slice yb.l.a fl.length yb.l.cap))) := Lib.hid (fun W hW => by
        obtain ⟨e0, e1, e2, e3, e4, e5, e6, e7, e8, e9⟩ := (HK0.out W (HB0.out.trans (hW.mono HB0.out.size))).ten
        exact ⟨(HBX.out.below hW).cells, e3, e4, e5, e6, e7, e8, e9⟩)
      clear hxa
      go_wp2_with fail
      go_region_held3 (fun w' => (w'.cell? ⟨w.heap.size, 0, none⟩ = some (.slice x.slots.a s.slots.length x.slots.cap) ∧ w'.cell? ⟨w.heap.size, 1, none⟩ = some (.slice x.rooms.a s.rooms.length x.rooms.cap) ∧ w'.cell? ⟨w.heap.size, 2, none⟩ = some (.slice x.people.a s.people.length x.people.cap) ∧ w'.cell? ⟨w.heap.size, 3, none⟩ = some (.slice x.groups.a s.groups.length x.groups.cap) ∧ w'.cell? ⟨w.heap.size, 4, none⟩ = some (.slice x.lessons.a s.lessons.length x.lessons.cap)) ∧ w'.cell? ⟨y.b, y.o + j * 10 + 3, none⟩ = some (.slice ye.a each.length ye.cap) ∧ (w'.cell? ⟨y.b, y.o + j * 10 + 4, none⟩ = some (.int .i64 kind) ∧ w'.cell? ⟨y.b, y.o + j * 10 + 5, none⟩ = some (.string ⟨fname.toArray⟩) ∧ w'.cell? ⟨y.b, y.o + j * 10 + 6, none⟩ = some (.int .i64 fn) ∧ w'.cell? ⟨y.b, y.o + j * 10 + 7, none⟩ = some (.slice yb.t.a terms.length yb.t.cap) ∧ w'.cell? ⟨y.b, y.o + j * 10 + 8, none⟩ = some (.slice yb.b.a binds.length yb.b.cap) ∧ w'.cell? ⟨y.b, y.o + j * 10 + 9, none⟩ = some (.slice yb.l.a fl.length yb.l.cap))) ((refine HK.out _ ?_; first | exact HC1.out.1 | exact (Below.refl _ _).drew | fail)) (first
        | (go_at_call 35; refine (HM1.out _ HB0.out.drew).mono ?_; rintro e w1 ⟨m, rfl, hm, hbb⟩; have HC1 := Lib.hid (And.intro ((Below.refl _ _).drew.trans hbb) (HB0.out.drew.trans (hbb.mono HB0.out.drew.size))); clear hbb))
      all_goals
        have HBX1 := Lib.hid (HBX.out.below (HC1.out.1.mono (Nat.le_refl _)))
        have hs1 : IntKind.i64.wrap (n + (m : Int)) = n + (m : Int) := IntWalk.i64_in _ (by omega)
        by_cases hm4 : 4096 < m
        · have hd : decide ((m : Int) > 4096) = true := by simp; omega
          go_wp2_with fail
          go_ret
          exact ⟨⟨_, rfl⟩, HC1.out.2⟩
        · have hd : decide ((m : Int) > 4096) = false := by simp; omega
          have hm5 : m ≤ 4096 := by omega
          go_wp2_with fail
          clear hd hs1
          have HK2 : Hid (∀ W, Below w1.heap.size w1 W → (W.cell? ⟨w.heap.size, 0, none⟩ = some (.slice x.slots.a s.slots.length x.slots.cap) ∧ W.cell? ⟨w.heap.size, 1, none⟩ = some (.slice x.rooms.a s.rooms.length x.rooms.cap) ∧ W.cell? ⟨w.heap.size, 2, none⟩ = some (.slice x.people.a s.people.length x.people.cap) ∧ W.cell? ⟨w.heap.size, 3, none⟩ = some (.slice x.groups.a s.groups.length x.groups.cap) ∧ W.cell? ⟨w.heap.size, 4, none⟩ = some (.slice x.lessons.a s.lessons.length x.lessons.cap)) ∧ W.cell? ⟨y.b, y.o + j * 10 + 3, none⟩ = some (.slice ye.a each.length ye.cap) ∧ (W.cell? ⟨y.b, y.o + j * 10 + 4, none⟩ = some (.int .i64 kind) ∧ W.cell? ⟨y.b, y.o + j * 10 + 5, none⟩ = some (.string ⟨fname.toArray⟩) ∧ W.cell? ⟨y.b, y.o + j * 10 + 6, none⟩ = some (.int .i64 fn) ∧ W.cell? ⟨y.b, y.o + j * 10 + 7, none⟩ = some (.slice yb.t.a terms.length yb.t.cap) ∧ W.cell? ⟨y.b, y.o + j * 10 + 8, none⟩ = some (.slice yb.b.a binds.length yb.b.cap) ∧ W.cell? ⟨y.b, y.o + j * 10 + 9, none⟩ = some (.slice yb.l.a fl.length yb.l.cap))) := Lib.hid (fun W hW => HK.out W ((HC1.out.1.mono (Nat.le_refl _)).trans (hW.mono (HC1.out.1.mono (Nat.le_refl _)).size)))
          go_region_held3 (fun w' => (w'.cell? ⟨w.heap.size, 0, none⟩ = some (.slice x.slots.a s.slots.length x.slots.cap) ∧ w'.cell? ⟨w.heap.size, 1, none⟩ = some (.slice x.rooms.a s.rooms.length x.rooms.cap) ∧ w'.cell? ⟨w.heap.size, 2, none⟩ = some (.slice x.people.a s.people.length x.people.cap) ∧ w'.cell? ⟨w.heap.size, 3, none⟩ = some (.slice x.groups.a s.groups.length x.groups.cap) ∧ w'.cell? ⟨w.heap.size, 4, none⟩ = some (.slice x.lessons.a s.lessons.length x.lessons.cap)) ∧ w'.cell? ⟨y.b, y.o + j * 10 + 3, none⟩ = some (.slice ye.a each.length ye.cap) ∧ (w'.cell? ⟨y.b, y.o + j * 10 + 4, none⟩ = some (.int .i64 kind) ∧ w'.cell? ⟨y.b, y.o + j * 10 + 5, none⟩ = some (.string ⟨fname.toArray⟩) ∧ w'.cell? ⟨y.b, y.o + j * 10 + 6, none⟩ = some (.int .i64 fn) ∧ w'.cell? ⟨y.b, y.o + j * 10 + 7, none⟩ = some (.slice yb.t.a terms.length yb.t.cap) ∧ w'.cell? ⟨y.b, y.o + j * 10 + 8, none⟩ = some (.slice yb.b.a binds.length yb.b.cap) ∧ w'.cell? ⟨y.b, y.o + j * 10 + 9, none⟩ = some (.slice yb.l.a fl.length yb.l.cap))) ((refine HK2.out _ ?_; first | exact HC2.out.1 | exact (Below.refl _ _).drew | fail)) (first
            | (go_at_call 27; refine (HB1.out _ HC1.out.2.drew).mono ?_; rintro e w2 ⟨q, rfl, hq, hbb⟩; have HC2 := Lib.hid (And.intro ((Below.refl _ _).drew.trans hbb) (HC1.out.2.drew.trans (hbb.mono HC1.out.2.drew.size))); clear hbb))
          all_goals
            have hp : m * q ≤ 4096 * 2097152 := Nat.mul_le_mul hm5 hq
            obtain ⟨pq, hpq⟩ : ∃ pq : Nat, pq = m * q := ⟨_, rfl⟩
            rw [← hpq] at hp
            have e1 : IntKind.i64.wrap ((m : Int) * (q : Int)) = (pq : Int) := by rw [← Int.natCast_mul, ← hpq]; exact IntWalk.i64_in _ (by omega)
            have e2 : IntKind.i64.wrap (wd + (pq : Int)) = wd + (pq : Int) := IntWalk.i64_in _ (by omega)
            rw [e1, e2]
            clear hpq e1 e2
            go_wp2_with fail
            exact ⟨⟨j + 1, min (n + m) 2097152, min (wd + pq) 2097152, by omega, by go_num, by go_num, rfl, by omega, by omega, by omega, by omega, Lib.hid HC2.out.2, Lib.hid (HBX1.out.below (HC2.out.1.mono (Nat.le_refl _)))⟩, by simp [intOf]; omega⟩
    · go_wp2_with fail
      all_goals
        go_ret
        exact ⟨⟨_, rfl⟩, HB0.out⟩

set_option maxRecDepth 100000 in
set_option maxHeartbeats 8000000 in
theorem rfewrules_any (s : Schl) (x : SchA) (l : List Rul) (y : SlA) (w : World) (hsm : SchSmall s) (hs : SchIn w (· < w.heap.size) s x) (hy : SlIn w (· < w.heap.size) (l.map Rul.toD) y) (hl : l.length ≤ 2000000) (hf : ∀ r ∈ l, RulFit r) :
    Calls Tryz.prog 16 #[.agg (x.cells s).toArray, .slice y.a l.length y.cap] w fun e w' => SomeBool e ∧ Below w.heap.size w w' := by
  have hba : Below w.heap.size w (w.alloc (.cells (x.cells s).toArray 28)) := (Below.refl _ _).alloc (Nat.le_refl _) _
  have hbx : SchBox (w.alloc (.cells (x.cells s).toArray 28)) w.heap.size s x := by unfold SchBox; rw [heap_get, if_pos rfl]
  have HIN : Hid (∀ (j : Nat) (hj : j < l.length), ∃ z : RulA, RulIn w (· < w.heap.size) l[j] z ∧ CellsAt w y.b (y.o + j * 10) (z.cells l[j])) := Lib.hid (fun j hj => hy.rul j hj)
  have HSL := Lib.hid hy.at_
  have HMN := Lib.hid (fun (j : Nat) (hj : j < l.length) (z : RulA) (hz : RulIn w (· < w.heap.size) l[j] z) (W : World) (hW : Below w.heap.size w W) => rmany_any s x l[j].each z.each W (hs.later hW hW.size) hsm (hz.each.later hW hW.size) (by have := (hf _ (List.getElem_mem hj)).len; omega))
  have HBR := Lib.hid (fun (j : Nat) (hj : j < l.length) (z : RulA) (hz : RulIn w (· < w.heap.size) l[j] z) (W : World) (hW : Below w.heap.size w W) => rbroad_any s x hsm l[j].body.size l[j].body z.body W (Nat.le_refl _) (hf _ (List.getElem_mem hj)).body.size (fun g hg => ((hf _ (List.getElem_mem hj)).body.nodes g hg).2.1) (hs.later hW hW.size) (hz.body.later hW hW.size))
  have HGR := Lib.hid (fun (W : World) (hW : Below w.heap.size w W) => rgreat_any s x l y W hsm (hs.later hW hW.size) (hy.later hW hW.size) hl hf)
  have HF3 := Lib.hid (fun (W : World) (hW : Below w.heap.size w W) => rfew3_any s x W (hs.later hW hW.size) hsm)
  have HFT := Lib.hid hf
  have HB := Lib.hid (And.intro hba hbx)
  clear hs hy hf hba hbx hsm
  simp only [SchA.cells, SlA.val] at HB HMN HBR HGR HF3 ⊢
  go_enter Tryz.func16, Tryz.ntmps16
  go_wp2_with fail
  go_loopw [5, 6] (fun nn i wr => ∃ (j : Nat) (n : Int), j ≤ l.length ∧ j ≤ 20 ∧ i = .int .i64 j ∧ nn = .int .i64 n ∧ 0 ≤ n ∧ n ≤ 1048576 ∧ Hid (Below w.heap.size w wr) ∧ Hid (SchBox wr w.heap.size s x)) (fun _ i _ => l.length - (intOf i).toNat)
  case atStart => exact ⟨0, 0, Nat.zero_le _, by omega, rfl, rfl, by omega, by omega, Lib.hid HB.out.1, Lib.hid HB.out.2⟩
  case round =>
    obtain ⟨j, n, hj, hj20, rfl, rfl, hn0, hn, HB0, HBX⟩ := hrel
    by_cases hin : j < l.length ∧ j < 20
    · obtain ⟨hlt, h20⟩ := hin
      obtain ⟨z, hz1, hz2⟩ := HIN.out j hlt
      obtain ⟨hxa, hFb⟩ := HSL.out (by rw [List.length_map]; omega)
      have HK0 : Hid (∀ W, Below w.heap.size w W → CellsAt W y.b (y.o + j * 10) (z.cells l[j])) := Lib.hid (fun W hW => hz2.agree (agree_of_below hW) hFb)
      have HM1 := Lib.hid (HMN.out j hlt z hz1)
      have HB1 := Lib.hid (HBR.out j hlt z hz1)
      have HX8 := Lib.hid (fun (W : World) (hW : Below w.heap.size w W) => rfew8_any l[j].body.size l[j].body z.body W (Nat.le_refl _) (HFT.out _ (List.getElem_mem hlt)).body.size (hz1.body.later hW hW.size))
      have HEB : Hid (SlAt (· < w.heap.size) z.each.a z.each.b z.each.o l[j].each.length) := Lib.hid (by have := hz1.each.at_; rw [List.length_map] at this; exact this)
      have HEN : Hid (∀ (k : Nat) (hk : k < l[j].each.length), w.cell? ⟨z.each.b, z.each.o + k * 2, none⟩ = some (.string ⟨l[j].each[k].name.toArray⟩)) := Lib.hid (fun k hk => ((hz1.each.flat Bnd.flatT).2.2.2.1.two k hk rfl).1)
      rw [hxa]
      clear hz1 hz2 hFb
      generalize l[j] = re at HM1 HB1 HK0 HX8 HEB HEN
      obtain ⟨name, hard, weight, each, ⟨kind, fname, fn, terms, binds, fl⟩⟩ := re
      obtain ⟨ye, yb⟩ := z
      simp only [ndV, RulA.cells, SchA.cells, FrmA.cells, SlA.val, Frm.kind, Frm.name, Frm.n, Frm.terms, Frm.binds, Frm.l] at HM1 HB1 HK0 HX8 HEB HEN
      have HK : Hid (∀ W, Below wr.heap.size wr W → (W.cell? ⟨w.heap.size, 0, none⟩ = some (.slice x.slots.a s.slots.length x.slots.cap) ∧ W.cell? ⟨w.heap.size, 1, none⟩ = some (.slice x.rooms.a s.rooms.length x.rooms.cap) ∧ W.cell? ⟨w.heap.size, 2, none⟩ = some (.slice x.people.a s.people.length x.people.cap) ∧ W.cell? ⟨w.heap.size, 3, none⟩ = some (.slice x.groups.a s.groups.length x.groups.cap) ∧ W.cell? ⟨w.heap.size, 4, none⟩ = some (.slice x.lessons.a s.lessons.length x.lessons.cap)) ∧ W.cell? ⟨y.b, y.o + j * 10 + 3, none⟩ = some (.slice ye.a each.length ye.cap) ∧ (W.cell? ⟨y.b, y.o + j * 10 + 4, none⟩ = some (.int .i64 kind) ∧ W.cell? ⟨y.b, y.o + j * 10 + 5, none⟩ = some (.string ⟨fname.toArray⟩) ∧ W.cell? ⟨y.b, y.o + j * 10 + 6, none⟩ = some (.int .i64 fn) ∧ W.cell? ⟨y.b, y.o + j * 10 + 7, none⟩ = some (.slice yb.t.a terms.length yb.t.cap) ∧ W.cell? ⟨y.b, y.o + j * 10 + 8, none⟩ = some (.slice yb.b.a binds.length yb.b.cap) ∧ W.cell? ⟨y.b, y.o + j * 10 + 9, none⟩ = some (.slice yb.l.a fl.length yb.l.cap))) := Lib.hid (fun W hW => by
        obtain ⟨e0, e1, e2, e3, e4, e5, e6, e7, e8, e9⟩ := (HK0.out W (HB0.out.trans (hW.mono HB0.out.size))).ten
        exact ⟨(HBX.out.below hW).cells, e3, e4, e5, e6, e7, e8, e9⟩)
      clear hxa
      obtain ⟨e0, e1, e2, e3, e4, e5, e6, e7, e8, e9⟩ := (HK0.out wr HB0.out).ten
      have hq20 : decide ((j : Int) < 20) = true := by simp; omega
      go_wp2_with fail
      refine (HX8.out _ HB0.out).mono ?_
      rintro e w1 ⟨b1, rfl, hb1⟩
      have HB1w := Lib.hid (HB0.out.trans (hb1.mono HB0.out.size))
      have HBX1 := Lib.hid (HBX.out.below hb1)
      have HL1 := Lib.hid hb1
      clear hb1 e0 e1 e2 e3 e4 e5 e6 e7 e8 e9 hq20
      cases b1
      · go_wp2_with fail
        go_ret
        exact ⟨⟨_, rfl⟩, HB1w.out⟩
      obtain ⟨e0, e1, e2, e3, e4, e5, e6, e7, e8, e9⟩ := (HK0.out w1 HB1w.out).ten
      by_cases h12 : 12 < each.length
      · have hd : decide ((each.length : Int) > 12) = true := by simp; omega
        go_wp2_with fail
        go_ret
        exact ⟨⟨_, rfl⟩, HB1w.out⟩
      have hd : decide ((each.length : Int) > 12) = false := by simp; omega
      by_cases h100 : 100 < name.length
      · have hd2 : decide ((name.length : Int) > 100) = true := by simp; omega
        go_wp2_with fail
        go_ret
        exact ⟨⟨_, rfl⟩, HB1w.out⟩
      have hd2 : decide ((name.length : Int) > 100) = false := by simp; omega
      go_wp2_with fail
      clear hd hd2 e0 e1 e2 e3 e4 e5 e6 e7 e8 e9
      have HW1 : Hid (Below w1.heap.size w1 w1) := Lib.hid (Below.refl _ _)
      obtain ⟨wo, hwo⟩ : ∃ wo, wo = w1 := ⟨_, rfl⟩
      rw [← hwo] at HB1w HBX1 HL1 HW1
      have hbo : Below wo.heap.size wo w1 := by rw [hwo]; exact Below.refl _ _
      have HBO := Lib.hid hbo
      clear hwo hbo HW1 h100
      go_loopw [7] (fun k wi => ∃ q : Nat, q ≤ each.length ∧ k = .int .i64 q ∧ Hid (Below wo.heap.size wo wi)) (fun k _ => each.length - (intOf k).toNat)
      case atStart => exact ⟨0, Nat.zero_le _, rfl, HBO⟩
      case round =>
        clear HBO
        obtain ⟨q, hq, rfl, HBI⟩ := hrel
        have HBW := Lib.hid (HB1w.out.trans (HBI.out.mono HB1w.out.size))
        have HBXW := Lib.hid (HBX1.out.below HBI.out)
        by_cases hql : q < each.length
        · obtain ⟨e0, e1, e2, e3, e4, e5, e6, e7, e8, e9⟩ := (HK0.out wr HBW.out).ten
          obtain ⟨hea, heb⟩ := HEB.out (by omega)
          have en := (HBW.out.cell (p := ⟨ye.b, ye.o + q * 2, none⟩) heb).trans (HEN.out q hql)
          rw [hea] at e3
          clear hea heb e0 e1 e2 e4 e5 e6 e7 e8 e9
          by_cases h1 : 100 < (each[q].name).length
          · have hd : decide (((each[q].name).length : Int) > 100) = true := by simp; omega
            generalize each[q].name = nm at en hd
            clear h1
            go_wp2_with fail
            go_ret
            exact ⟨⟨_, rfl⟩, HBW.out⟩
          · have hd : decide (((each[q].name).length : Int) > 100) = false := by simp; omega
            generalize each[q].name = nm at en hd
            clear h1
            go_wp2_with fail
            exact ⟨⟨q + 1, by omega, by go_num, HBI⟩, by simp [intOf]; omega⟩
        · obtain ⟨e0, e1, e2, e3, e4, e5, e6, e7, e8, e9⟩ := (HK0.out wr HBW.out).ten
          go_wp2_with fail
          clear e0 e1 e2 e3 e4 e5 e6 e7 e8 e9
          have HK2 : Hid (∀ W, Below wr.heap.size wr W → (W.cell? ⟨w.heap.size, 0, none⟩ = some (.slice x.slots.a s.slots.length x.slots.cap) ∧ W.cell? ⟨w.heap.size, 1, none⟩ = some (.slice x.rooms.a s.rooms.length x.rooms.cap) ∧ W.cell? ⟨w.heap.size, 2, none⟩ = some (.slice x.people.a s.people.length x.people.cap) ∧ W.cell? ⟨w.heap.size, 3, none⟩ = some (.slice x.groups.a s.groups.length x.groups.cap) ∧ W.cell? ⟨w.heap.size, 4, none⟩ = some (.slice x.lessons.a s.lessons.length x.lessons.cap)) ∧ W.cell? ⟨y.b, y.o + j * 10 + 3, none⟩ = some (.slice ye.a each.length ye.cap) ∧ (W.cell? ⟨y.b, y.o + j * 10 + 4, none⟩ = some (.int .i64 kind) ∧ W.cell? ⟨y.b, y.o + j * 10 + 5, none⟩ = some (.string ⟨fname.toArray⟩) ∧ W.cell? ⟨y.b, y.o + j * 10 + 6, none⟩ = some (.int .i64 fn) ∧ W.cell? ⟨y.b, y.o + j * 10 + 7, none⟩ = some (.slice yb.t.a terms.length yb.t.cap) ∧ W.cell? ⟨y.b, y.o + j * 10 + 8, none⟩ = some (.slice yb.b.a binds.length yb.b.cap) ∧ W.cell? ⟨y.b, y.o + j * 10 + 9, none⟩ = some (.slice yb.l.a fl.length yb.l.cap))) := Lib.hid (fun W hW => by
            obtain ⟨e0, e1, e2, e3, e4, e5, e6, e7, e8, e9⟩ := (HK0.out W (HBW.out.trans (hW.mono HBW.out.size))).ten
            exact ⟨(HBXW.out.below hW).cells, e3, e4, e5, e6, e7, e8, e9⟩)
          go_region_held3 (fun w' => (w'.cell? ⟨w.heap.size, 0, none⟩ = some (.slice x.slots.a s.slots.length x.slots.cap) ∧ w'.cell? ⟨w.heap.size, 1, none⟩ = some (.slice x.rooms.a s.rooms.length x.rooms.cap) ∧ w'.cell? ⟨w.heap.size, 2, none⟩ = some (.slice x.people.a s.people.length x.people.cap) ∧ w'.cell? ⟨w.heap.size, 3, none⟩ = some (.slice x.groups.a s.groups.length x.groups.cap) ∧ w'.cell? ⟨w.heap.size, 4, none⟩ = some (.slice x.lessons.a s.lessons.length x.lessons.cap)) ∧ w'.cell? ⟨y.b, y.o + j * 10 + 3, none⟩ = some (.slice ye.a each.length ye.cap) ∧ (w'.cell? ⟨y.b, y.o + j * 10 + 4, none⟩ = some (.int .i64 kind) ∧ w'.cell? ⟨y.b, y.o + j * 10 + 5, none⟩ = some (.string ⟨fname.toArray⟩) ∧ w'.cell? ⟨y.b, y.o + j * 10 + 6, none⟩ = some (.int .i64 fn) ∧ w'.cell? ⟨y.b, y.o + j * 10 + 7, none⟩ = some (.slice yb.t.a terms.length yb.t.cap) ∧ w'.cell? ⟨y.b, y.o + j * 10 + 8, none⟩ = some (.slice yb.b.a binds.length yb.b.cap) ∧ w'.cell? ⟨y.b, y.o + j * 10 + 9, none⟩ = some (.slice yb.l.a fl.length yb.l.cap))) ((refine HK2.out _ ?_; first | exact HC2.out.1 | exact HC1.out.1 | exact (Below.refl _ _).drew | fail)) (first
            | (go_at_call 27; refine (HB1.out _ HC1.out.2).mono ?_; rintro e w3 ⟨q3, rfl, hq3, hbb⟩; have HC2 := Lib.hid (And.intro (HC1.out.1.trans (hbb.mono HC1.out.1.size)) (HC1.out.2.trans (hbb.mono HC1.out.2.size))); clear hbb)
            | (go_at_call 35; refine (HM1.out _ HBW.out.drew).mono ?_; rintro e w2 ⟨m, rfl, hm, hbb⟩; have HC1 := Lib.hid (And.intro ((Below.refl _ _).drew.trans hbb) (HBW.out.drew.trans (hbb.mono HBW.out.drew.size))); clear hbb))
          all_goals
            have hp : m * q3 ≤ 2097152 * 2097152 := Nat.mul_le_mul hm hq3
            obtain ⟨pq, hpq⟩ : ∃ pq : Nat, pq = m * q3 := ⟨_, rfl⟩
            rw [← hpq] at hp
            have e1 : IntKind.i64.wrap ((m : Int) * (q3 : Int)) = (pq : Int) := by rw [← Int.natCast_mul, ← hpq]; exact IntWalk.i64_in _ (by omega)
            have e2 : IntKind.i64.wrap (n + (pq : Int)) = n + (pq : Int) := IntWalk.i64_in _ (by omega)
            rw [e1, e2]
            clear hpq e1 e2
            go_wp2_with fail
            exact ⟨⟨j + 1, min (n + pq) 1048576, by omega, by omega, by go_num, rfl, by omega, by omega, Lib.hid HC2.out.2, Lib.hid (HBXW.out.below (HC2.out.1.mono (Nat.le_refl _)))⟩, by simp [intOf]; omega⟩
    · have hq2 : ¬ (j < l.length) ∨ (j < l.length ∧ decide ((j : Int) < 20) = false) := by
        by_cases h : j < l.length
        · exact .inr ⟨h, by simp; omega⟩
        · exact .inl h
      obtain ⟨c0, c1, c2, c3, c4⟩ := HBX.out.cells
      rcases hq2 with hq2 | ⟨hq2, hq3⟩
      all_goals
        go_wp2_with fail
        refine (HF3.out _ HB0.out).mono ?_
        rintro e w1 ⟨b1, rfl, hb1⟩
        have HB1w := Lib.hid (HB0.out.trans (hb1.mono HB0.out.size))
        have HBX1 := Lib.hid (HBX.out.below hb1)
        clear hb1 c0 c1 c2 c3 c4
        cases b1
        · go_wp2_with fail
          go_ret
          exact ⟨⟨_, rfl⟩, HB1w.out⟩
        by_cases h12 : l.length ≤ 12
        rotate_left
        · have hd : decide ((l.length : Int) ≤ 12) = false := by simp; omega
          go_wp2_with fail
          go_ret
          exact ⟨⟨_, rfl⟩, HB1w.out⟩
        have hd : decide ((l.length : Int) ≤ 12) = true := by simp; omega
        by_cases h2 : n ≤ 20000
        · have hd2 : decide (n ≤ 20000) = true := by simp; omega
          go_wp2_with fail
          go_ret
          exact ⟨⟨_, rfl⟩, HB1w.out⟩
        have hd2 : decide (n ≤ 20000) = false := by simp; omega
        obtain ⟨c0, c1, c2, c3, c4⟩ := HBX1.out.cells
        go_wp2_with fail
        refine (HGR.out _ HB1w.out).mono ?_
        rintro e w2 ⟨⟨b2, rfl⟩, hb2⟩
        go_wp2_with fail
        go_ret
        exact ⟨⟨_, rfl⟩, HB1w.out.trans (hb2.mono HB1w.out.size)⟩
end Go.Proofs.YtlfjjokcbeaekaaGreatDoor
