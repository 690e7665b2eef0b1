/- Joined texts: Stat. -/
import Derived.Test.YtlfjjokcbeaekaaGreatDoorB33
import Derived.Test.YtlfjjokcbeaekaaGreatDoorB07

/- law09.static: whether a formula contains neither 'at' nor 'in'. -/
namespace Go.Proofs.YtlfjjokcbeaekaaGreatDoor
open Go.RowKit Go.Chalk
theorem staticL_take {l : List Frm} {j : Nat} (hj : j < l.length) : staticL (l.drop j) = (staticF l[j] && staticL (l.drop (j + 1))) := by
  rw [List.drop_eq_getElem_cons hj, staticL]

set_option maxRecDepth 100000 in
set_option maxHeartbeats 2000000 in
theorem static_any (m : Nat) : ∀ (f : Frm) (y : FrmA) (w : World), f.size ≤ m → f.size ≤ 2000000 → FrmIn w (· < w.heap.size) f y →
    Calls Tryz.prog 15 #[ndV (f, y)] w fun e w' => e = .returned (.bool (staticF f)) ∧ Below w.heap.size w w' := by
  induction m with
  | zero => intro f _ _ h; have := f.size_pos; omega
  | succ m ih =>
    rintro ⟨kind, name, n, terms, binds, fl⟩ y w hm hsz hy
    rw [Frm.size] at hm hsz
    have hll := length_le_fsizes fl
    have hba : Below w.heap.size w (w.alloc (.cells (y.cells (.mk kind name n terms binds fl)).toArray 37)) := (Below.refl _ _).alloc (Nat.le_refl _) _
    have hby : FrmBox (w.alloc (.cells (y.cells (.mk kind name n terms binds fl)).toArray 37)) w.heap.size (.mk kind name n terms binds fl) y := by unfold FrmBox; rw [heap_get, if_pos rfl]
    have HFI : Hid (∀ (j : Nat) (hj : j < fl.length), ∃ y1 : FrmA, FrmIn w (· < w.heap.size) fl[j] y1 ∧ CellsAt w y.l.b (y.l.o + j * 6) (y1.cells fl[j])) := Lib.hid (fun j hj => hy.l.frm j hj)
    have HFS : Hid (SlAt (· < w.heap.size) y.l.a y.l.b y.l.o fl.length) := Lib.hid (by have := hy.l.at_; rw [List.length_map] at this; exact this)
    have HIH := Lib.hid (fun (j : Nat) (hj : j < fl.length) (y1 : FrmA) (W : World) (hW : Below w.heap.size w W) (h1 : FrmIn w (· < w.heap.size) fl[j] y1) => ih fl[j] y1 W (by have := size_le_fsizes fl j hj; omega) (by have := size_le_fsizes fl j hj; omega) (h1.later hW hW.size))
    have HB := Lib.hid (And.intro hba hby)
    clear ih hy hba hby
    generalize hres : staticF (.mk kind name n terms binds fl) = res
    have HRES := Lib.hid (show (staticL fl && (kind != 3 && kind != 4)) = res by rw [← hres, staticF])
    clear hres
    simp only [ndV, FrmA.cells, SlA.val, Frm.kind, Frm.name, Frm.n, Frm.terms, Frm.binds, Frm.l] at HB ⊢
    go_enter Tryz.func15, Tryz.ntmps15
    go_wp2_with fail
    go_loopw [3] (fun i wr => ∃ (j : Nat), j ≤ fl.length ∧ i = .int .i64 j ∧ Below w.heap.size w wr ∧ Hid (FrmBox wr w.heap.size (.mk kind name n terms binds fl) y) ∧ Hid (staticL fl = staticL (fl.drop j))) (fun i _ => fl.length - (intOf i).toNat)
    case atStart => exact ⟨0, Nat.zero_le _, rfl, HB.out.1, Lib.hid HB.out.2, Lib.hid rfl⟩
    case round =>
      obtain ⟨j, hj, rfl, hb, HBX, HST⟩ := hrel
      have HB0 := Lib.hid hb
      obtain ⟨b0, _, _, _, _, b5⟩ := HBX.out.cells
      simp only [Frm.l, Frm.kind] at b5 b0
      by_cases hlt : j < fl.length
      · obtain ⟨y1, hy1, hy2⟩ := HFI.out j hlt
        obtain ⟨hxa, hFb⟩ := HFS.out (by omega)
        have HCL := Lib.hid (HIH.out j hlt y1 wr hb hy1)
        obtain ⟨e0, e1, e2, e3, e4, e5⟩ := (hy2.agree (agree_of_below hb) hFb).six
        have HTK := Lib.hid (staticL_take hlt)
        rw [hxa] at b5
        clear hy1 hy2 hFb hxa hb
        generalize fl[j] = fe at HCL e0 e1 e2 e3 e4 e5 HTK
        generalize hsf : staticF fe = sf at HCL HTK
        clear hsf
        obtain ⟨kind1, name1, n1, terms1, binds1, fl1⟩ := fe
        simp only [ndV, FrmA.cells, SlA.val, Frm.kind, Frm.name, Frm.n, Frm.terms, Frm.binds, Frm.l] at HCL e0 e1 e2 e3 e4 e5
        go_wp2_with fail
        refine HCL.out.mono ?_
        rintro e w1 ⟨rfl, hb1⟩
        have HC1 := Lib.hid (And.intro (HB0.out.trans (hb1.mono HB0.out.size)) (HBX.out.below hb1))
        clear hb1 e0 e1 e2 e3 e4 e5 b5 b0
        cases sf
        · go_wp2_with fail
          go_ret
          refine ⟨ret_bool ?_, HC1.out.1⟩
          rw [← HRES.out, HST.out, HTK.out]; rfl
        · go_wp2_with fail
          exact ⟨⟨j + 1, by omega, by go_num, HC1.out.1, Lib.hid HC1.out.2, Lib.hid (by rw [HST.out, HTK.out, Bool.true_and])⟩, by simp [intOf]; omega⟩
      · clear hb
        have HD : Hid (staticL fl = true) := Lib.hid (by rw [HST.out, List.drop_of_length_le (by omega)]; rfl)
        by_cases h3 : kind = 3
        · subst h3
          go_wp2_with fail
          go_ret
          exact ⟨ret_bool (by rw [← HRES.out, HD.out]; rfl), HB0.out⟩
        · have hd3 : decide (kind = 3) = false := by simp [h3]
          by_cases h4 : kind = 4
          · subst h4
            clear h3 hd3
            go_wp2_with fail
            go_ret
            exact ⟨ret_bool (by rw [← HRES.out, HD.out]; rfl), HB0.out⟩
          · have hd4 : decide (kind = 4) = false := by simp [h4]
            go_wp2_with fail
            go_ret
            exact ⟨ret_bool (by rw [← HRES.out, HD.out]; simp [h3, h4]), HB0.out⟩
end Go.Proofs.YtlfjjokcbeaekaaGreatDoor
