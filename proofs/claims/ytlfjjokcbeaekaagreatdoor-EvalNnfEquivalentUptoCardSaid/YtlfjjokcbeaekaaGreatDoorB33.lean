/- Joined texts: RefS, RefF, RefW. -/
import Derived.Test.YtlfjjokcbeaekaaGreatDoorB32
import Derived.Deep.QuietTactic
import Derived.Deep.CutRange

/- The reference's Few of a school: it answers. -/
namespace Go.Proofs.YtlfjjokcbeaekaaGreatDoor
open Go.RowKit Go.Chalk

theorem drewN_below {B : Nat} {w w' : World} (h : Below B w w') (n : Nat) : Below B w (w'.drewN n) := ⟨h.os, h.tape, h.output, h.size, h.block⟩
set_option maxRecDepth 100000 in
set_option maxHeartbeats 8000000 in
theorem rfew3_any (s : Schl) (x : SchA) (w : World) (hs : SchIn w (· < w.heap.size) s x) (hsm : SchSmall s) :
    Calls Tryz.prog 25 #[.agg (x.cells s).toArray] w fun e w' => ∃ b : Bool, e = .returned (.bool b) ∧ Below w.heap.size w w' := by
  have hba : Below w.heap.size w (w.alloc (.cells (x.cells s).toArray 28)) := (Below.refl _ _).alloc (Nat.le_refl _) _
  have hbx : SchBox (w.alloc (.cells (x.cells s).toArray 28)) w.heap.size s x := by unfold SchBox; rw [heap_get, if_pos rfl]
  have HNM := Lib.hid (fun (sort : Int) (W : World) (hW : Below w.heap.size w W) => rnames_any s x sort W (hs.later hW hW.size) hsm)
  have HNL := Lib.hid (fun (sort : Int) => count_le hsm sort)
  have HB := Lib.hid (And.intro hba hbx)
  have HS := Lib.hid hs
  have HSM := Lib.hid hsm
  clear hs hsm hba hbx
  simp only [SchA.cells, SlA.val] at HNM HB ⊢
  go_enter Tryz.func25, Tryz.ntmps25
  go_wp2_with fail
  go_loopw [3, 4] (fun nn i wr => ∃ (j : Nat) (q : Int), j ≤ s.rooms.length ∧ i = .int .i64 j ∧ nn = .int .i64 q ∧ Below w.heap.size w wr ∧ Hid (SchBox wr w.heap.size s x)) (fun _ i _ => s.rooms.length - (intOf i).toNat)
  case atStart => exact ⟨0, 0, Nat.zero_le _, rfl, rfl, HB.out.1, Lib.hid HB.out.2⟩
  case round =>
    obtain ⟨j, q, hj, rfl, rfl, hb, HBX⟩ := hrel
    have HB0 := Lib.hid hb
    have hsm := HSM.out.rooms
    obtain ⟨c0, c1, c2, c3, c4⟩ := HBX.out.cells
    obtain ⟨v, hv⟩ : ∃ v, v = (decide (j < s.rooms.length) && decide (j < 80)) := ⟨_, rfl⟩
    have HV := Lib.hid hv
    clear hv
    have hcase : Hid ((j < s.rooms.length ∧ j < 80) ∨ (j < s.rooms.length ∧ ¬ j < 80) ∨ ¬ j < s.rooms.length) := Lib.hid (by omega)
    go_upto_region 3 with fail
    go_cut [18] from 10 to 29 (fun u w' => u = .bool v ∧ w' = wr)
    case first =>
      rcases hcase.out with ⟨p1, p2⟩ | ⟨p1, p2⟩ | p1
      · have hv : v = true := by rw [HV.out]; simp [p1, p2]
        subst hv
        go_wp2_with fail
        all_goals (go_meet; exact ⟨by first | rfl | (congr 1; simp; omega) | (exfalso; simp at p1'; omega), rfl⟩)
      · have hv : v = false := by rw [HV.out]; simp [p2]
        subst hv
        have p2' : decide ((j : Int) < 80) = false := decide_eq_false (by omega)
        clear p2
        go_wp2_with fail
        all_goals (go_meet; exact ⟨by first | rfl | (congr 1; simp; omega) | (exfalso; simp at p1'; omega), rfl⟩)
      · have hv : v = false := by rw [HV.out]; simp [p1]
        subst hv
        have p1' : decide ((j : Int) < (s.rooms.length : Int)) = false := decide_eq_false (by omega)
        clear p1
        go_wp2_with fail
        all_goals (go_meet; exact ⟨by first | rfl | (congr 1; simp; omega) | (exfalso; simp at p1'; omega), rfl⟩)
    case rest =>
      obtain ⟨rfl, rfl⟩ := hcut
      cases v
      rotate_left
      · have hlt : j < s.rooms.length := by
          have h := HV.out
          rcases hcase.out with ⟨p1, p2⟩ | ⟨p1, p2⟩ | p1
          · exact p1
          · exact p1
          · rw [decide_eq_false p1] at h; simp at h
        clear HV hcase
        obtain ⟨y1, _, _, _, _, hy2⟩ := HS.out.rooms.rom j hlt
        obtain ⟨hxa, hFb⟩ := HS.out.rooms.at_ (by rw [List.length_map]; omega)
        obtain ⟨e0, e1, e2, e3⟩ := (hy2.agree (agree_of_below hb) hFb).four
        simp only [SlA.val] at e3
        generalize (s.rooms[j]).shut.length = sl at e3
        rw [hxa] at c1
        clear hy2 hFb hxa hb
        go_wp2_with fail
        exact ⟨⟨j + 1, _, by omega, by go_num, rfl, HB0.out, HBX⟩, by simp [intOf]; omega⟩
      · clear HV hcase hb
        go_wp2_with fail
        go_loopw [3, 5] (fun nn i wr => ∃ (j : Nat) (q : Int), j ≤ s.people.length ∧ i = .int .i64 j ∧ nn = .int .i64 q ∧ Below w.heap.size w wr ∧ Hid (SchBox wr w.heap.size s x)) (fun _ i _ => s.people.length - (intOf i).toNat)
        case atStart => exact ⟨0, q, Nat.zero_le _, rfl, rfl, HB0.out, HBX⟩
        case round =>
          obtain ⟨j, q, hj, rfl, rfl, hb, HBX⟩ := hrel
          have HB0 := Lib.hid hb
          have hsm := HSM.out.people
          obtain ⟨c0, c1, c2, c3, c4⟩ := HBX.out.cells
          obtain ⟨v, hv⟩ : ∃ v, v = (decide (j < s.people.length) && decide (j < 80)) := ⟨_, rfl⟩
          have HV := Lib.hid hv
          clear hv
          have hcase : Hid ((j < s.people.length ∧ j < 80) ∨ (j < s.people.length ∧ ¬ j < 80) ∨ ¬ j < s.people.length) := Lib.hid (by omega)
          go_upto_region 7 with fail
          go_cut [38] from 30 to 49 (fun u w' => u = .bool v ∧ w' = wr)
          case first =>
            rcases hcase.out with ⟨p1, p2⟩ | ⟨p1, p2⟩ | p1
            · have hv : v = true := by rw [HV.out]; simp [p1, p2]
              subst hv
              go_wp2_with fail
              all_goals (go_meet; exact ⟨by first | rfl | (congr 1; simp; omega) | (exfalso; simp at p1'; omega), rfl⟩)
            · have hv : v = false := by rw [HV.out]; simp [p2]
              subst hv
              have p2' : decide ((j : Int) < 80) = false := decide_eq_false (by omega)
              clear p2
              go_wp2_with fail
              all_goals (go_meet; exact ⟨by first | rfl | (congr 1; simp; omega) | (exfalso; simp at p1'; omega), rfl⟩)
            · have hv : v = false := by rw [HV.out]; simp [p1]
              subst hv
              have p1' : decide ((j : Int) < (s.people.length : Int)) = false := decide_eq_false (by omega)
              clear p1
              go_wp2_with fail
              all_goals (go_meet; exact ⟨by first | rfl | (congr 1; simp; omega) | (exfalso; simp at p1'; omega), rfl⟩)
          case rest =>
            obtain ⟨rfl, rfl⟩ := hcut
            cases v
            rotate_left
            · have hlt : j < s.people.length := by
                have h := HV.out
                rcases hcase.out with ⟨p1, p2⟩ | ⟨p1, p2⟩ | p1
                · exact p1
                · exact p1
                · rw [decide_eq_false p1] at h; simp at h
              clear HV hcase
              obtain ⟨y1, _, _, hy2⟩ := HS.out.people.psn j hlt
              obtain ⟨hxa, hFb⟩ := HS.out.people.at_ (by rw [List.length_map]; omega)
              obtain ⟨e0, e1⟩ := (hy2.agree (agree_of_below hb) hFb).two
              simp only [SlA.val] at e1
              generalize (s.people[j]).away.length = sl at e1
              rw [hxa] at c2
              clear hy2 hFb hxa hb
              go_wp2_with fail
              exact ⟨⟨j + 1, _, by omega, by go_num, rfl, HB0.out, HBX⟩, by simp [intOf]; omega⟩
            · clear HV hcase hb
              go_wp2_with fail
              go_loopw [3, 6] (fun nn i wr => ∃ (j : Nat) (q : Int), j ≤ s.lessons.length ∧ i = .int .i64 j ∧ nn = .int .i64 q ∧ Below w.heap.size w wr ∧ Hid (SchBox wr w.heap.size s x)) (fun _ i _ => s.lessons.length - (intOf i).toNat)
              case atStart => exact ⟨0, q, Nat.zero_le _, rfl, rfl, HB0.out, HBX⟩
              case round =>
                obtain ⟨j, q, hj, rfl, rfl, hb, HBX⟩ := hrel
                have HB0 := Lib.hid hb
                have hsm := HSM.out.lessons
                obtain ⟨c0, c1, c2, c3, c4⟩ := HBX.out.cells
                obtain ⟨v, hv⟩ : ∃ v, v = (decide (j < s.lessons.length) && decide (j < 80)) := ⟨_, rfl⟩
                have HV := Lib.hid hv
                clear hv
                have hcase : Hid ((j < s.lessons.length ∧ j < 80) ∨ (j < s.lessons.length ∧ ¬ j < 80) ∨ ¬ j < s.lessons.length) := Lib.hid (by omega)
                go_upto_region 11 with fail
                go_cut [58] from 50 to 77 (fun u w' => u = .bool v ∧ w' = wr)
                case first =>
                  rcases hcase.out with ⟨p1, p2⟩ | ⟨p1, p2⟩ | p1
                  · have hv : v = true := by rw [HV.out]; simp [p1, p2]
                    subst hv
                    go_wp2_with fail
                    all_goals (go_meet; exact ⟨by first | rfl | (congr 1; simp; omega) | (exfalso; simp at p1'; omega), rfl⟩)
                  · have hv : v = false := by rw [HV.out]; simp [p2]
                    subst hv
                    have p2' : decide ((j : Int) < 80) = false := decide_eq_false (by omega)
                    clear p2
                    go_wp2_with fail
                    all_goals (go_meet; exact ⟨by first | rfl | (congr 1; simp; omega) | (exfalso; simp at p1'; omega), rfl⟩)
                  · have hv : v = false := by rw [HV.out]; simp [p1]
                    subst hv
                    have p1' : decide ((j : Int) < (s.lessons.length : Int)) = false := decide_eq_false (by omega)
                    clear p1
                    go_wp2_with fail
                    all_goals (go_meet; exact ⟨by first | rfl | (congr 1; simp; omega) | (exfalso; simp at p1'; omega), rfl⟩)
                case rest =>
                  obtain ⟨rfl, rfl⟩ := hcut
                  cases v
                  rotate_left
                  · have hlt : j < s.lessons.length := by
                      have h := HV.out
                      rcases hcase.out with ⟨p1, p2⟩ | ⟨p1, p2⟩ | p1
                      · exact p1
                      · exact p1
                      · rw [decide_eq_false p1] at h; simp at h
                    clear HV hcase
                    obtain ⟨y1, y2, _, _, _, hy2⟩ := HS.out.lessons.lsn j hlt
                    obtain ⟨hxa, hFb⟩ := HS.out.lessons.at_ (by rw [List.length_map]; omega)
                    obtain ⟨e0, e1, e2⟩ := (hy2.agree (agree_of_below hb) hFb).three
                    simp only [SlA.val] at e1 e2
                    generalize (s.lessons[j]).who.length = sl at e1
                    generalize (s.lessons[j]).groups.length = sl2 at e2
                    rw [hxa] at c4
                    clear hy2 hFb hxa hb
                    go_wp2_with fail
                    go_quiet (fail)
                    go_wp2_with fail
                    exact ⟨⟨j + 1, _, by omega, by go_num, rfl, drewN_below HB0.out _, Lib.hid (HBX.out.below (drewN_below (Below.refl _ _) _))⟩, by simp [intOf]; omega⟩
                  · clear HV hcase hb
                    go_wp2_with fail
                    go_loopw [3, 7] (fun nn so wr => ∃ (j : Nat) (q : Int), j ≤ 5 ∧ so = .int .i64 ((j : Int) + 1) ∧ nn = .int .i64 q ∧ Below w.heap.size w wr ∧ Hid (SchBox wr w.heap.size s x)) (fun _ so _ => 6 - (intOf so).toNat)
                    case atStart => exact ⟨0, q, Nat.zero_le _, rfl, rfl, HB0.out, HBX⟩
                    case round =>
                      obtain ⟨j, q, hj, rfl, rfl, hb, HBX⟩ := hrel
                      have HB0 := Lib.hid hb
                      obtain ⟨c0, c1, c2, c3, c4⟩ := HBX.out.cells
                      by_cases hlt : j < 5
                      · have hl5 : (j : Int) + 1 ≤ 5 := by omega
                        have HN1 := Lib.hid (HNM.out ((j : Int) + 1) _ hb)
                        have hle := HNL.out ((j : Int) + 1)
                        have HLE : Hid ((schNames s ((j : Int) + 1)).length ≤ 2000000) := Lib.hid hle
                        clear hb hle
                        generalize schNames s ((j : Int) + 1) = ns at HN1 HLE
                        go_wp2_with fail
                        refine HN1.out.mono ?_
                        rintro e w1 ⟨x0, rfl, hx0, hb1⟩
                        have HC1 := Lib.hid (And.intro (HB0.out.trans (hb1.mono HB0.out.size)) (HBX.out.below hb1))
                        have HX0 := Lib.hid hx0
                        clear hb1 hx0 c0 c1 c2 c3 c4
                        obtain ⟨xa, xb, xo, xc⟩ := x0
                        simp only at HX0 ⊢
                        go_wp2_with fail
                        go_loop [3, 9] (fun nn i => ∃ (k : Nat) (q : Int), k ≤ ns.length ∧ i = .int .i64 k ∧ nn = .int .i64 q) (fun _ i => ns.length - (intOf i).toNat)
                        case atStart => exact ⟨0, q, Nat.zero_le _, rfl, rfl⟩
                        case round =>
                          obtain ⟨k, q, hk, rfl, rfl⟩ := hrel
                          have hle := HLE.out
                          obtain ⟨v, hv⟩ : ∃ v, v = (decide (k < ns.length) && decide (k < 80)) := ⟨_, rfl⟩
                          have HV := Lib.hid hv
                          clear hv
                          have hcase : Hid ((k < ns.length ∧ k < 80) ∨ (k < ns.length ∧ ¬ k < 80) ∨ ¬ k < ns.length) := Lib.hid (by omega)
                          go_upto_region 19 with fail
                          go_cut [92] from 85 to 101 (fun u w' => u = .bool v ∧ w' = w1)
                          case first =>
                            rcases hcase.out with ⟨p1, p2⟩ | ⟨p1, p2⟩ | p1
                            · have hv : v = true := by rw [HV.out]; simp [p1, p2]
                              subst hv
                              go_wp2_with fail
                              all_goals (go_meet; exact ⟨by first | rfl | (congr 1; simp; omega) | (exfalso; simp at p1'; omega), rfl⟩)
                            · have hv : v = false := by rw [HV.out]; simp [p2]
                              subst hv
                              have p2' : decide ((k : Int) < 80) = false := decide_eq_false (by omega)
                              clear p2
                              go_wp2_with fail
                              all_goals (go_meet; exact ⟨by first | rfl | (congr 1; simp; omega) | (exfalso; simp at p1'; omega), rfl⟩)
                            · have hv : v = false := by rw [HV.out]; simp [p1]
                              subst hv
                              have p1' : decide ((k : Int) < (ns.length : Int)) = false := decide_eq_false (by omega)
                              clear p1
                              go_wp2_with fail
                              all_goals (go_meet; exact ⟨by first | rfl | (congr 1; simp; omega) | (exfalso; simp at p1'; omega), rfl⟩)
                          case rest =>
                            obtain ⟨rfl, rfl⟩ := hcut
                            cases v
                            rotate_left
                            · have hltk : k < ns.length := by
                                have h := HV.out
                                rcases hcase.out with ⟨p1, p2⟩ | ⟨p1, p2⟩ | p1
                                · exact p1
                                · exact p1
                                · rw [decide_eq_false p1] at h; simp at h
                              clear HV hcase
                              obtain ⟨ga, _, _, gc, _⟩ := HX0.out.flat strD_flat
                              obtain ⟨hxa, _⟩ := ga (by omega)
                              have e0 : wc.cell? ⟨xb, xo + k, none⟩ = some (.string ⟨(ns[k]).toArray⟩) := by
                                have h := gc k hltk
                                have h2 := h 0 (by simp [strD, D.vals])
                                simpa [strD, D.vals] using h2
                              clear ga gc
                              simp only at hxa
                              subst hxa
                              generalize ns[k] = nm at e0
                              go_wp2_with fail
                              go_round
                              case rel => exact ⟨k + 1, _, by omega, by go_num, rfl⟩
                              case measure => simp [intOf]; omega
                            · clear HV hcase
                              by_cases h80 : (80 : Int) < (ns.length : Int)
                              · go_wp2_with fail
                                go_ret
                                exact ⟨.inl rfl, HC1.out.1⟩
                              · have h80' : decide ((80 : Int) < (ns.length : Int)) = false := decide_eq_false h80
                                clear h80
                                go_wp2_with fail
                                exact ⟨⟨j + 1, q, by omega, by go_num, rfl, HC1.out.1, Lib.hid HC1.out.2⟩, by simp [intOf]; omega⟩
                      · have hj5 : j = 5 := by omega
                        subst hj5
                        by_cases hq : q ≤ (20000 : Int)
                        · go_wp2_with fail
                          go_ret
                          exact ⟨true, rfl, HB0.out⟩
                        · have hq' : decide (q ≤ (20000 : Int)) = false := decide_eq_false hq
                          clear hq
                          go_wp2_with fail
                          go_ret
                          exact ⟨false, rfl, HB0.out⟩
end Go.Proofs.YtlfjjokcbeaekaaGreatDoor

/- The reference's Size and Few of a formula: they answer. -/
namespace Go.Proofs.YtlfjjokcbeaekaaGreatDoor
open Go.RowKit Go.Chalk
def FrmBox (W : World) (b : Nat) (f : Frm) (y : FrmA) : Prop := W.heap[b]? = some (.cells (y.cells f).toArray 37 (0, 0))
theorem FrmBox.below {W W' : World} {b : Nat} {f : Frm} {y : FrmA} (h : FrmBox W b f y) (hb : Below W.heap.size W W') : FrmBox W' b f y := (hb.block _ (Array.getElem?_eq_some_iff.1 h).1).trans h
theorem FrmBox.lt {W : World} {b : Nat} {f : Frm} {y : FrmA} (h : FrmBox W b f y) : b < W.heap.size := (Array.getElem?_eq_some_iff.1 h).1
theorem FrmBox.cells {W : World} {b : Nat} {f : Frm} {y : FrmA} (h : FrmBox W b f y) : W.cell? ⟨b, 0, none⟩ = some (.int .i64 f.kind) ∧ W.cell? ⟨b, 1, none⟩ = some (.string ⟨f.name.toArray⟩) ∧ W.cell? ⟨b, 2, none⟩ = some (.int .i64 f.n) ∧ W.cell? ⟨b, 3, none⟩ = some (.slice y.t.a f.terms.length y.t.cap) ∧ W.cell? ⟨b, 4, none⟩ = some (.slice y.b.a f.binds.length y.b.cap) ∧ W.cell? ⟨b, 5, none⟩ = some (.slice y.l.a f.l.length y.l.cap) :=
  ⟨cell_of_heap h rfl, cell_of_heap h rfl, cell_of_heap h rfl, cell_of_heap h rfl, cell_of_heap h rfl, cell_of_heap h rfl⟩

set_option maxRecDepth 100000 in
set_option maxHeartbeats 2000000 in
theorem rsize_any (m : Nat) : ∀ (f : Frm) (y : FrmA) (w : World), f.size ≤ m → f.size ≤ 2000000 → FrmIn w (· < w.heap.size) f y →
    Calls Tryz.prog 54 #[ndV (f, y)] w fun e w' => ∃ n : Int, e = .returned (.int .i64 n) ∧ Below w.heap.size w w' := by
  induction m with
  | zero => intro f _ _ h; have := f.size_pos; omega
  | succ m ih =>
    rintro ⟨kind, name, n, terms, binds, fl⟩ y w hm hsz hy
    rw [Frm.size] at hm hsz
    have hll := length_le_fsizes fl
    have hba : Below w.heap.size w (w.alloc (.cells (y.cells (.mk kind name n terms binds fl)).toArray 37)) := (Below.refl _ _).alloc (Nat.le_refl _) _
    have hby : FrmBox (w.alloc (.cells (y.cells (.mk kind name n terms binds fl)).toArray 37)) w.heap.size (.mk kind name n terms binds fl) y := by unfold FrmBox; rw [heap_get, if_pos rfl]
    have HFI : Hid (∀ (j : Nat) (hj : j < fl.length), ∃ y1 : FrmA, FrmIn w (· < w.heap.size) fl[j] y1 ∧ CellsAt w y.l.b (y.l.o + j * 6) (y1.cells fl[j])) := Lib.hid (fun j hj => hy.l.frm j hj)
    have HFS : Hid (SlAt (· < w.heap.size) y.l.a y.l.b y.l.o fl.length) := Lib.hid (by have := hy.l.at_; rw [List.length_map] at this; exact this)
    have HIH := Lib.hid (fun (j : Nat) (hj : j < fl.length) (y1 : FrmA) (W : World) (hW : Below w.heap.size w W) (h1 : FrmIn w (· < w.heap.size) fl[j] y1) => ih fl[j] y1 W (by have := size_le_fsizes fl j hj; omega) (by have := size_le_fsizes fl j hj; omega) (h1.later hW hW.size))
    have HB := Lib.hid (And.intro hba hby)
    clear ih hy hba hby
    simp only [ndV, FrmA.cells, SlA.val, Frm.kind, Frm.name, Frm.n, Frm.terms, Frm.binds, Frm.l] at HB ⊢
    go_enter Tryz.func54, Tryz.ntmps54
    go_wp2_with fail
    go_loopw [3, 4] (fun nn i wr => ∃ (j : Nat) (q : Int), j ≤ fl.length ∧ i = .int .i64 j ∧ nn = .int .i64 q ∧ Below w.heap.size w wr ∧ Hid (FrmBox wr w.heap.size (.mk kind name n terms binds fl) y)) (fun _ i _ => fl.length - (intOf i).toNat)
    case atStart => exact ⟨0, 1, Nat.zero_le _, rfl, rfl, HB.out.1, Lib.hid HB.out.2⟩
    case round =>
      obtain ⟨j, q, hj, rfl, rfl, hb, HBX⟩ := hrel
      have HB0 := Lib.hid hb
      obtain ⟨_, _, _, _, _, b5⟩ := HBX.out.cells
      simp only [Frm.l] at b5
      by_cases hlt : j < fl.length
      · obtain ⟨y1, hy1, hy2⟩ := HFI.out j hlt
        obtain ⟨hxa, hFb⟩ := HFS.out (by omega)
        have HCL := Lib.hid (HIH.out j hlt y1 wr hb hy1)
        obtain ⟨e0, e1, e2, e3, e4, e5⟩ := (hy2.agree (agree_of_below hb) hFb).six
        rw [hxa] at b5
        clear hy1 hy2 hFb hxa hb
        generalize fl[j] = fe at HCL e0 e1 e2 e3 e4 e5
        obtain ⟨kind1, name1, n1, terms1, binds1, fl1⟩ := fe
        simp only [ndV, FrmA.cells, SlA.val, Frm.kind, Frm.name, Frm.n, Frm.terms, Frm.binds, Frm.l] at HCL e0 e1 e2 e3 e4 e5
        go_wp2_with fail
        refine HCL.out.mono ?_
        rintro e w1 ⟨q1, rfl, hb1⟩
        have HC1 := Lib.hid (And.intro (HB0.out.trans (hb1.mono HB0.out.size)) (HBX.out.below hb1))
        clear hb1 e0 e1 e2 e3 e4 e5 b5
        go_wp2_with fail
        exact ⟨⟨j + 1, _, by omega, by go_num, rfl, HC1.out.1, Lib.hid HC1.out.2⟩, by simp [intOf]; omega⟩
      · clear hb
        go_wp2_with fail
        go_ret
        exact ⟨q, rfl, HB0.out⟩

set_option maxRecDepth 100000 in
set_option maxHeartbeats 2000000 in
theorem rfew8_any (m : Nat) : ∀ (f : Frm) (y : FrmA) (w : World), f.size ≤ m → f.size ≤ 2000000 → FrmIn w (· < w.heap.size) f y →
    Calls Tryz.prog 26 #[ndV (f, y)] w fun e w' => ∃ b : Bool, e = .returned (.bool b) ∧ Below w.heap.size w w' := by
  induction m with
  | zero => intro f _ _ h; have := f.size_pos; omega
  | succ m ih =>
    rintro ⟨kind, name, n, terms, binds, fl⟩ y w hm hsz hy
    have hss := hsz
    rw [Frm.size] at hm hsz
    have hll := length_le_fsizes fl
    have hba : Below w.heap.size w (w.alloc (.cells (y.cells (.mk kind name n terms binds fl)).toArray 37)) := (Below.refl _ _).alloc (Nat.le_refl _) _
    have hby : FrmBox (w.alloc (.cells (y.cells (.mk kind name n terms binds fl)).toArray 37)) w.heap.size (.mk kind name n terms binds fl) y := by unfold FrmBox; rw [heap_get, if_pos rfl]
    have HFI : Hid (∀ (j : Nat) (hj : j < fl.length), ∃ y1 : FrmA, FrmIn w (· < w.heap.size) fl[j] y1 ∧ CellsAt w y.l.b (y.l.o + j * 6) (y1.cells fl[j])) := Lib.hid (fun j hj => hy.l.frm j hj)
    have HFS : Hid (SlAt (· < w.heap.size) y.l.a y.l.b y.l.o fl.length) := Lib.hid (by have := hy.l.at_; rw [List.length_map] at this; exact this)
    have HSZ := Lib.hid (rsize_any _ (.mk kind name n terms binds fl) y _ (Nat.le_refl _) hss (hy.later hba hba.size))
    have HIH := Lib.hid (fun (j : Nat) (hj : j < fl.length) (y1 : FrmA) (W : World) (hW : Below w.heap.size w W) (h1 : FrmIn w (· < w.heap.size) fl[j] y1) => ih fl[j] y1 W (by have := size_le_fsizes fl j hj; omega) (by have := size_le_fsizes fl j hj; omega) (h1.later hW hW.size))
    have HB := Lib.hid (And.intro hba hby)
    obtain ⟨b0, b1, b2, b3, b4, b5⟩ := hby.cells
    have h1 : (4 < (fl.length : Int) ∧ 4 < fl.length) ∨ (decide (4 < (fl.length : Int)) = false) := by
      by_cases h : 4 < fl.length
      · exact .inl ⟨by omega, h⟩
      · exact .inr (decide_eq_false (by omega))
    have h2 : (4 < (terms.length : Int) ∧ 4 < terms.length) ∨ (decide (4 < (terms.length : Int)) = false) := by
      by_cases h : 4 < terms.length
      · exact .inl ⟨by omega, h⟩
      · exact .inr (decide_eq_false (by omega))
    have h3 : (10 < (binds.length : Int) ∧ 10 < binds.length) ∨ (decide (10 < (binds.length : Int)) = false) := by
      by_cases h : 10 < binds.length
      · exact .inl ⟨by omega, h⟩
      · exact .inr (decide_eq_false (by omega))
    have H1 := Lib.hid h1
    have H2 := Lib.hid h2
    have H3 := Lib.hid h3
    clear ih hy hba hby h1 h2 h3 hss
    simp only [ndV, FrmA.cells, SlA.val, Frm.kind, Frm.name, Frm.n, Frm.terms, Frm.binds, Frm.l] at HB HSZ b0 b1 b2 b3 b4 b5 ⊢
    go_enter Tryz.func26, Tryz.ntmps26
    rcases H1.out with ⟨p1, _⟩ | p1
    · go_wp2_with fail
      go_ret
      exact ⟨false, rfl, HB.out.1⟩
    rcases H2.out with ⟨p2, _⟩ | p2
    · go_wp2_with fail
      go_ret
      exact ⟨false, rfl, HB.out.1⟩
    rcases H3.out with ⟨p3, _⟩ | p3
    · go_wp2_with fail
      go_ret
      exact ⟨false, rfl, HB.out.1⟩
    go_wp2_with fail
    refine HSZ.out.mono ?_
    rintro e w1 ⟨q1, rfl, hb1⟩
    have HC1 := Lib.hid (And.intro (HB.out.1.trans (hb1.mono HB.out.1.size)) (HB.out.2.below hb1))
    clear hb1 b0 b1 b2 b3 b4 b5
    by_cases hq : (300 : Int) < q1
    · go_wp2_with fail
      go_ret
      exact ⟨false, rfl, HC1.out.1⟩
    have hq' : decide ((300 : Int) < q1) = false := decide_eq_false hq
    clear hq
    go_wp2_with fail
    go_loopw [3] (fun i wr => ∃ j : Nat, j ≤ fl.length ∧ i = .int .i64 j ∧ Below w.heap.size w wr ∧ Hid (FrmBox wr w.heap.size (.mk kind name n terms binds fl) y)) (fun i _ => fl.length - (intOf i).toNat)
    case atStart => exact ⟨0, Nat.zero_le _, rfl, HC1.out.1, Lib.hid HC1.out.2⟩
    case round =>
      obtain ⟨j, hj, rfl, hb, HBX⟩ := hrel
      have HB0 := Lib.hid hb
      obtain ⟨_, _, _, _, _, b5⟩ := HBX.out.cells
      simp only [Frm.l] at b5
      by_cases hlt : j < fl.length
      · obtain ⟨y1, hy1, hy2⟩ := HFI.out j hlt
        obtain ⟨hxa, hFb⟩ := HFS.out (by omega)
        have HCL := Lib.hid (HIH.out j hlt y1 wr hb hy1)
        obtain ⟨e0, e1, e2, e3, e4, e5⟩ := (hy2.agree (agree_of_below hb) hFb).six
        rw [hxa] at b5
        clear hy1 hy2 hFb hxa hb
        generalize fl[j] = fe at HCL e0 e1 e2 e3 e4 e5
        obtain ⟨kind1, name1, n1, terms1, binds1, fl1⟩ := fe
        simp only [ndV, FrmA.cells, SlA.val, Frm.kind, Frm.name, Frm.n, Frm.terms, Frm.binds, Frm.l] at HCL e0 e1 e2 e3 e4 e5
        go_wp2_with fail
        refine HCL.out.mono ?_
        rintro e w1 ⟨q1, rfl, hb1⟩
        have HC1 := Lib.hid (And.intro (HB0.out.trans (hb1.mono HB0.out.size)) (HBX.out.below hb1))
        clear hb1 e0 e1 e2 e3 e4 e5 b5
        cases q1
        · go_wp2_with fail
          go_ret
          exact ⟨false, rfl, HC1.out.1⟩
        · go_wp2_with fail
          exact ⟨⟨j + 1, by omega, by go_num, HC1.out.1, Lib.hid HC1.out.2⟩, by simp [intOf]; omega⟩
      · clear hb
        go_wp2_with fail
        go_ret
        exact ⟨true, rfl, HB0.out⟩
end Go.Proofs.YtlfjjokcbeaekaaGreatDoor

/- The reference's Few of the arguments: it answers. -/
namespace Go.Proofs.YtlfjjokcbeaekaaGreatDoor
open Go.RowKit Go.Chalk
def SomeBool (e : Ending) : Prop := ∃ b : Bool, e = .returned (.bool b)

set_option maxRecDepth 100000 in
set_option maxHeartbeats 8000000 in
theorem rfew9_any (s : Schl) (x : SchA) (l : List Plc) (y : SlA) (env : List Ev) (z : SlA) (f : Frm) (fa : FrmA) (w : World) (hf : SchSmall s) (hff : FrmFit f) (hs : SchIn w (· < w.heap.size) s x) (hl : l.length ≤ 2000000)
    (hz : SlIn w (· < w.heap.size) (env.map Ev.toD) z) (hel : env.length ≤ 2000000) (hx : FrmIn w (· < w.heap.size) f fa) :
    Calls Tryz.prog 10 #[.agg (x.cells s).toArray, .agg #[.slice y.a l.length y.cap], .slice z.a env.length z.cap, ndV (f, fa)] w fun e w' => SomeBool e ∧ Below w.heap.size w w' := by
  have HFW := Lib.hid (fun (W : World) (hW : Below w.heap.size w W) => rfew3_any s x W (hs.later hW hW.size) hf)
  have HF8 := Lib.hid (fun (W : World) (hW : Below w.heap.size w W) => rfew8_any f.size f fa W (Nat.le_refl _) hff.size (hx.later hW hW.size))
  have HBR := Lib.hid (fun (W : World) (hW : Below w.heap.size w W) => rbroad_any s x hf f.size f fa W (Nat.le_refl _) hff.size (fun g hg => (hff.nodes g hg).2.1) (hs.later hW hW.size) (hx.later hW hW.size))
  obtain ⟨g1, _, _, g4, _⟩ := hz.flat Ev.flatT
  obtain ⟨za, zb, zo, zc⟩ := z
  simp only at g1 g4 ⊢
  have HC := Lib.hid g4
  have HSL := Lib.hid g1
  have HLN := Lib.hid (And.intro hl hel)
  clear hs hz hx hf hff g1 g4 hl hel
  obtain ⟨W0, hW0⟩ : ∃ W0, W0 = ((w.alloc (.cells (x.cells s).toArray 28)).alloc (.cells #[.slice y.a l.length y.cap] 31)).alloc (.cells (fa.cells f).toArray 37) := ⟨_, rfl⟩
  have hb0 : Below w.heap.size w W0 := by rw [hW0]; exact (((Below.refl _ _).alloc (Nat.le_refl _) _).alloc (by simp) _).alloc (by simp; omega) _
  have hs0 : SchBox W0 w.heap.size s x := by rw [hW0]; unfold SchBox; rw [heap_get, if_neg (by simp; omega), heap_get, if_neg (by simp), heap_get, if_pos rfl]
  have hk0 : W0.heap[w.heap.size + 1]? = some (.cells #[.slice y.a l.length y.cap] 31 (0, 0)) := by rw [hW0, heap_get, if_neg (by simp), heap_get, if_pos (by simp)]
  have hf0 : FrmBox W0 (w.heap.size + 1 + 1) f fa := by rw [hW0]; unfold FrmBox; rw [heap_get, if_pos (by simp)]
  have HB : Hid (Below w.heap.size w W0 ∧ SchBox W0 w.heap.size s x ∧ W0.heap[w.heap.size + 1]? = some (.cells #[.slice y.a l.length y.cap] 31 (0, 0)) ∧ FrmBox W0 (w.heap.size + 1 + 1) f fa) := Lib.hid ⟨hb0, hs0, hk0, hf0⟩
  have HW0 := Lib.hid hW0
  clear hb0 hs0 hk0 hf0 hW0
  obtain ⟨kind, name, n, terms, binds, fl⟩ := f
  simp only [ndV, SchA.cells, FrmA.cells, SlA.val, Frm.kind, Frm.name, Frm.n, Frm.terms, Frm.binds, Frm.l] at HFW HF8 HBR HW0 ⊢
  go_enter Tryz.func10, Tryz.ntmps10
  go_wp2_with fail
  rw [← HW0.out]
  go_loop [9] (fun i => ∃ j : Nat, j ≤ env.length ∧ i = .int .i64 j) (fun i => env.length - (intOf i).toNat)
  case atStart => exact ⟨0, Nat.zero_le _, rfl⟩
  case round =>
    obtain ⟨j, hj, rfl⟩ := hrel
    have hle := HLN.out.2
    obtain ⟨v, hv⟩ : ∃ v, v = (decide (j < env.length) && decide (j < 20)) := ⟨_, rfl⟩
    have HV := Lib.hid hv
    clear hv
    have hcase : Hid ((j < env.length ∧ j < 20) ∨ (j < env.length ∧ ¬ j < 20) ∨ ¬ j < env.length) := Lib.hid (by omega)
    go_upto_region 2 with fail
    go_cut [17] from 10 to 26 (fun u w' => u = .bool v ∧ w' = W0)
    case first =>
      rcases hcase.out with ⟨p1, p2⟩ | ⟨p1, p2⟩ | p1
      · have hv : v = true := by rw [HV.out]; simp [p1, p2]
        subst hv
        go_wp2_with fail
        all_goals (go_meet; exact ⟨by first | rfl | (congr 1; simp; omega) | (exfalso; simp at p1'; omega), rfl⟩)
      · have hv : v = false := by rw [HV.out]; simp [p2]
        subst hv
        have p2' : decide ((j : Int) < 20) = false := decide_eq_false (by omega)
        clear p2
        go_wp2_with fail
        all_goals (go_meet; exact ⟨by first | rfl | (congr 1; simp; omega) | (exfalso; simp at p1'; omega), rfl⟩)
      · have hv : v = false := by rw [HV.out]; simp [p1]
        subst hv
        have p1' : decide ((j : Int) < (env.length : Int)) = false := decide_eq_false (by omega)
        clear p1
        go_wp2_with fail
        all_goals (go_meet; exact ⟨by first | rfl | (congr 1; simp; omega) | (exfalso; simp at p1'; omega), rfl⟩)
    case rest =>
      obtain ⟨rfl, rfl⟩ := hcut
      cases v
      rotate_left
      · have hlt : j < env.length := by
          have h := HV.out
          rcases hcase.out with ⟨p1, p2⟩ | ⟨p1, p2⟩ | p1
          · exact p1
          · exact p1
          · rw [decide_eq_false p1] at h; simp at h
        clear HV hcase
        obtain ⟨hxa, hFb⟩ := HSL.out (by omega)
        subst hxa
        obtain ⟨q0, _, _⟩ := HC.out.three j hlt rfl
        have e0 := (HB.out.1.cell (p := ⟨zb, zo + j * 3, none⟩) hFb).trans q0
        clear q0 hFb
        generalize env[j].name = nm at e0
        by_cases hq : (100 : Int) < (nm.length : Int)
        · go_wp2_with fail
          go_ret
          exact ⟨⟨_, rfl⟩, HB.out.1⟩
        · have hq' : decide ((100 : Int) < (nm.length : Int)) = false := decide_eq_false hq
          clear hq
          go_wp2_with fail
          go_round
          case rel => exact ⟨j + 1, by omega, by go_num⟩
          case measure => simp [intOf]; omega
      · clear HV hcase
        have HE : Hid (∀ W, Below wc.heap.size wc W → Below w.heap.size w W ∧ (W.cell? ⟨w.heap.size, 0, none⟩ = some (.slice x.slots.a s.slots.length x.slots.cap) ∧ W.cell? ⟨w.heap.size, 1, none⟩ = some (.slice x.rooms.a s.rooms.length x.rooms.cap) ∧ W.cell? ⟨w.heap.size, 2, none⟩ = some (.slice x.people.a s.people.length x.people.cap) ∧ W.cell? ⟨w.heap.size, 3, none⟩ = some (.slice x.groups.a s.groups.length x.groups.cap) ∧ W.cell? ⟨w.heap.size, 4, none⟩ = some (.slice x.lessons.a s.lessons.length x.lessons.cap)) ∧
            W.cell? ⟨w.heap.size + 1, 0, none⟩ = some (.slice y.a l.length y.cap) ∧ (W.cell? ⟨w.heap.size + 1 + 1, 0, none⟩ = some (.int .i64 kind) ∧ W.cell? ⟨w.heap.size + 1 + 1, 1, none⟩ = some (.string ⟨name.toArray⟩) ∧ W.cell? ⟨w.heap.size + 1 + 1, 2, none⟩ = some (.int .i64 n) ∧ W.cell? ⟨w.heap.size + 1 + 1, 3, none⟩ = some (.slice fa.t.a terms.length fa.t.cap) ∧ W.cell? ⟨w.heap.size + 1 + 1, 4, none⟩ = some (.slice fa.b.a binds.length fa.b.cap) ∧ W.cell? ⟨w.heap.size + 1 + 1, 5, none⟩ = some (.slice fa.l.a fl.length fa.l.cap))) := Lib.hid (fun W hW =>
          ⟨HB.out.1.trans (hW.mono HB.out.1.size), (HB.out.2.1.below hW).cells, cell_of_heap ((hW.block _ (Array.getElem?_eq_some_iff.1 HB.out.2.2.1).1).trans HB.out.2.2.1) rfl, (HB.out.2.2.2.below hW).cells⟩)
        obtain ⟨_, ⟨c0, c1, c2, c3, c4⟩, _⟩ := HE.out wc (Below.refl _ _)
        go_wp2_with fail
        refine (HFW.out _ HB.out.1).mono ?_
        rintro e w1 ⟨b1, rfl, hb1⟩
        have H1 := Lib.hid hb1
        clear hb1 c0 c1 c2 c3 c4
        cases b1
        · go_wp2_with fail
          go_ret
          exact ⟨⟨_, rfl⟩, (HE.out _ H1.out).1⟩
        obtain ⟨_, ⟨c0, c1, c2, c3, c4⟩, d0, f0, f1, f2, f3, f4, f5⟩ := HE.out w1 H1.out
        by_cases p1 : (l.length : Int) ≤ 70
        rotate_left
        · have p1' : decide ((l.length : Int) ≤ 70) = false := decide_eq_false p1
          clear p1
          go_wp2_with fail
          go_ret
          exact ⟨⟨_, rfl⟩, (HE.out _ H1.out).1⟩
        by_cases p2 : (env.length : Int) ≤ 12
        rotate_left
        · have p2' : decide ((env.length : Int) ≤ 12) = false := decide_eq_false p2
          clear p2
          go_wp2_with fail
          go_ret
          exact ⟨⟨_, rfl⟩, (HE.out _ H1.out).1⟩
        go_wp2_with fail
        refine (HF8.out _ (HE.out _ H1.out).1).mono ?_
        rintro e w2 ⟨b2, rfl, hb2⟩
        have H2 := Lib.hid (H1.out.trans (hb2.mono H1.out.size))
        clear hb2 c0 c1 c2 c3 c4 d0 f0 f1 f2 f3 f4 f5
        cases b2
        · go_wp2_with fail
          go_ret
          exact ⟨⟨_, rfl⟩, (HE.out _ H2.out).1⟩
        obtain ⟨_, ⟨c0, c1, c2, c3, c4⟩, d0, f0, f1, f2, f3, f4, f5⟩ := HE.out w2 H2.out
        go_wp2_with fail
        refine (HBR.out _ (HE.out _ H2.out).1).mono ?_
        rintro e w3 ⟨n1, rfl, hn1, hb3⟩
        have H3 := Lib.hid (H2.out.trans (hb3.mono H2.out.size))
        clear hb3 c0 c1 c2 c3 c4 d0 f0 f1 f2 f3 f4 f5
        by_cases p3 : (n1 : Int) ≤ 20000
        · go_wp2_with fail
          go_ret
          exact ⟨⟨_, rfl⟩, (HE.out _ H3.out).1⟩
        have p3' : decide ((n1 : Int) ≤ 20000) = false := decide_eq_false p3
        clear p3
        obtain ⟨_, ⟨c0, c1, c2, c3, c4⟩, d0, f0, f1, f2, f3, f4, f5⟩ := HE.out w3 H3.out
        go_wp2_with fail
        refine (HBR.out _ (HE.out _ H3.out).1).mono ?_
        rintro e w4 ⟨n2, rfl, hn2, hb4⟩
        have H4 := Lib.hid (H3.out.trans (hb4.mono H3.out.size))
        clear hb4 c0 c1 c2 c3 c4 d0 f0 f1 f2 f3 f4 f5
        go_wp2_with fail
        go_ret
        exact ⟨⟨_, rfl⟩, (HE.out _ H4.out).1⟩
end Go.Proofs.YtlfjjokcbeaekaaGreatDoor
