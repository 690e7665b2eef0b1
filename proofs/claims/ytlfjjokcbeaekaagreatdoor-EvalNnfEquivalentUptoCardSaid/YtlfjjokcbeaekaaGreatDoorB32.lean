/- Joined texts: RefN, RefM. -/
import Derived.Test.YtlfjjokcbeaekaaGreatDoorB31
import Derived.Test.YtlfjjokcbeaekaaGreatDoorB30
import Derived.Deep.RegionHeld3

/- The reference's Names and Count. -/
namespace Go.Proofs.YtlfjjokcbeaekaaGreatDoor
open Go.RowKit Go.Chalk
def strD (n : Bs) : D := .str ⟨n.toArray⟩
theorem strD_flat : FlatT strD 1 := ⟨fun _ => rfl, fun _ => rfl⟩
theorem infoStr0 : (Tryz.prog.info? 9).map (fun i => (i.zero, i.size, i.bytes)) = some (some (.string ByteArray.empty), 1, 16) := by kernel_rfl
theorem str_take {ns : List Bs} {j : Nat} (hj : j < ns.length) : (ns.take (j + 1)).map strD = (ns.take j).map strD ++ [strD ns[j]] := by rw [List.take_succ_eq_append_getElem hj, List.map_append]; rfl
theorem rnames_none (s : Schl) (x : SchA) (sort : Int) (w : World) (h : ¬ (1 ≤ sort ∧ sort ≤ 7)) :
    Calls Tryz.prog 53 #[.agg (x.cells s).toArray, .int .i64 sort] w fun e w' => ∃ x0 : SlA, e = .returned (.slice x0.a 0 x0.cap) ∧ SlIn w' (· < w'.heap.size) [] x0 ∧ Below w.heap.size w w' := by
  have k1 : (sort == 1) = false := by simp; omega
  have k2 : (sort == 2) = false := by simp; omega
  have k3 : (sort == 3) = false := by simp; omega
  have k4 : (sort == 4) = false := by simp; omega
  have k5 : (sort == 5) = false := by simp; omega
  have k6 : (sort == 6) = false := by simp; omega
  have k7 : (sort == 7) = false := by simp; omega
  clear h
  simp only [SchA.cells, SlA.val]
  go_enter Tryz.func53, Tryz.ntmps53
  go_wp2_with fail
  go_ret
  exact ⟨⟨none, 0, 0, 0⟩, rfl, SlIn.nil (Nat.zero_le _) _ _ _, (Below.refl _ _).alloc (Nat.le_refl _) _⟩

set_option maxRecDepth 100000 in
set_option maxHeartbeats 2000000 in
theorem rnames_1 (s : Schl) (x : SchA) (w : World) (hs : SlIn w (· < w.heap.size) (s.lessons.map Lsn.toD) x.lessons) (hl : s.lessons.length ≤ 2000000) (hN : ∀ (j : Nat) (hj : j < s.lessons.length), w.cell? ⟨x.lessons.b, x.lessons.o + j * 3, none⟩ = some (.string ⟨s.lessons[j].name.toArray⟩) ∧ s.lessons[j].name.length ≤ maxLen) :
    Calls Tryz.prog 53 #[.agg (x.cells s).toArray, .int .i64 1] w fun e w' => ∃ x0 : SlA, e = .returned (.slice x0.a (s.lessons.map Lsn.name).length x0.cap) ∧ SlIn w' (· < w'.heap.size) ((s.lessons.map Lsn.name).map strD) x0 ∧ Below w.heap.size w w' := by
  have HSL := Lib.hid hs.at_
  have HN := Lib.hid hN
  have hbx : SchBox (w.alloc (.cells (x.cells s).toArray 28)) w.heap.size s x := by unfold SchBox; rw [heap_get, if_pos rfl]
  have HBX := Lib.hid hbx
  obtain ⟨i0, hi, hz0, hz1, hz2⟩ := info_parts infoStr0
  obtain ⟨ns, hns⟩ : ∃ ns, ns = s.lessons.map Lsn.name := ⟨_, rfl⟩
  have hln : ns.length = s.lessons.length := by rw [hns, List.length_map]
  have HNS := Lib.hid (And.intro hns (And.intro hln hl))
  rw [← hns]
  clear hs hN hbx hns hln hl
  simp only [SchA.cells, SlA.val] at HBX ⊢
  go_enter Tryz.func53, Tryz.ntmps53
  go_wp2_with fail
  go_loopw [5, 6] (fun v i wr => ∃ j : Nat, j ≤ s.lessons.length ∧ i = .int .i64 j ∧ Below w.heap.size w wr ∧ Hid (SchBox wr w.heap.size s x) ∧ Hid (OwnN wr (w.heap.size + 1) (fun _ => False) 9 1 v ((ns.take j).map strD))) (fun _ i _ => s.lessons.length - (intOf i).toNat)
  case atStart => exact ⟨0, Nat.zero_le _, rfl, (Below.refl _ _).alloc (Nat.le_refl _) _, HBX, Lib.hid (OwnN.nil _ _ _ _ _ (fun _ h => h.elim))⟩
  case round =>
    obtain ⟨j, hj, rfl, hb, HBX, HO⟩ := hrel
    obtain ⟨c0, c1, c2, c3, c4⟩ := HBX.out.cells
    obtain ⟨oa, ocap, ho⟩ := HO.out.form
    subst ho
    have hlen : ((ns.take j).map strD).length = j := by rw [List.length_map, List.length_take]; have := HNS.out.2.1; omega
    rw [hlen] at HO ⊢
    have HLN := Lib.hid hlen
    clear hlen
    by_cases hlt : j < s.lessons.length
    · obtain ⟨hxa, hbl⟩ := HSL.out (by rw [List.length_map]; omega)
      obtain ⟨q0, q1⟩ := HN.out j hlt
      have e0 := (hb.cell (p := ⟨x.lessons.b, x.lessons.o + j * 3, none⟩) hbl).trans q0
      have hjn : j < ns.length := by have := HNS.out.2.1; omega
      have hnj : ns[j] = s.lessons[j].name := by have h := HNS.out.1; subst h; simp
      have HT := Lib.hid (str_take hjn)
      rw [hnj] at HT
      have HF := Lib.hid (DsAt.flat1 (w := wr) (F := fun _ => False) (x := strD s.lessons[j].name) rfl (by show (⟨(s.lessons[j].name).toArray⟩ : ByteArray).size ≤ maxLen; rw [bs_size]; exact q1))
      have HB1 := Lib.hid hb
      have hlm := HNS.out.2.2
      rw [hxa] at c4
      clear q0 q1 hjn hnj hxa
      generalize s.lessons[j].name = nm at HT HF e0
      go_wp2_with (at_builtin; go_must (refine wpList_append_oneO rfl rfl _ _ 119 rfl 9 i0 _ 1 16 Tryz.underlying119 hi hz0 hz1 hz2 rfl (by decide) (.slice oa j ocap) ((ns.take j).map strD) (strD nm) [.string ⟨nm.toArray⟩] 9 rfl rfl HO.out HF.out (by have := HBX.out.lt; omega) rfl (by rw [HLN.out]; unfold maxLen; omega) (by rw [HLN.out]; omega) ?_); intro ao cap w5 hon hb5; rw [HLN.out] at hon ⊢; have HON := Lib.hid (And.intro hon (And.intro (HB1.out.trans (hb5.mono (by omega))) (show SchBox w5 w.heap.size s x from (hb5.block _ (by omega)).trans HBX.out))); clear hon hb5)
      refine ⟨⟨j + 1, by omega, by go_num, HON.out.2.1, Lib.hid HON.out.2.2, Lib.hid ?_⟩, by simp [intOf]; omega⟩
      rw [HT.out]; exact HON.out.1
    · have HL : Hid (ns.take j = ns ∧ j = ns.length) := Lib.hid ⟨List.take_of_length_le (by have := HNS.out.2.1; omega), by have := HNS.out.2.1; omega⟩
      have HB1 := Lib.hid hb
      go_wp2_with fail
      go_ret
      have h := HO.out
      rw [HL.out.1] at h
      obtain ⟨x0, h0, h1⟩ := h.onto.sl (by rw [widths_map strD_flat, List.length_map])
      rw [List.length_map, ← HL.out.2] at h0
      refine ⟨x0, ?_, h1, HB1.out⟩
      show Ending.returned (.slice oa j ocap) = _
      rw [h0, SlA.val, ← HL.out.2]

set_option maxRecDepth 100000 in
set_option maxHeartbeats 2000000 in
theorem rnames_2 (s : Schl) (x : SchA) (w : World) (hs : SlIn w (· < w.heap.size) (s.slots.map Slt.toD) x.slots) (hl : s.slots.length ≤ 2000000) (hN : ∀ (j : Nat) (hj : j < s.slots.length), w.cell? ⟨x.slots.b, x.slots.o + j * 3, none⟩ = some (.string ⟨s.slots[j].name.toArray⟩) ∧ s.slots[j].name.length ≤ maxLen) :
    Calls Tryz.prog 53 #[.agg (x.cells s).toArray, .int .i64 2] w fun e w' => ∃ x0 : SlA, e = .returned (.slice x0.a (s.slots.map Slt.name).length x0.cap) ∧ SlIn w' (· < w'.heap.size) ((s.slots.map Slt.name).map strD) x0 ∧ Below w.heap.size w w' := by
  have HSL := Lib.hid hs.at_
  have HN := Lib.hid hN
  have hbx : SchBox (w.alloc (.cells (x.cells s).toArray 28)) w.heap.size s x := by unfold SchBox; rw [heap_get, if_pos rfl]
  have HBX := Lib.hid hbx
  obtain ⟨i0, hi, hz0, hz1, hz2⟩ := info_parts infoStr0
  obtain ⟨ns, hns⟩ : ∃ ns, ns = s.slots.map Slt.name := ⟨_, rfl⟩
  have hln : ns.length = s.slots.length := by rw [hns, List.length_map]
  have HNS := Lib.hid (And.intro hns (And.intro hln hl))
  rw [← hns]
  clear hs hN hbx hns hln hl
  simp only [SchA.cells, SlA.val] at HBX ⊢
  go_enter Tryz.func53, Tryz.ntmps53
  go_wp2_with fail
  go_loopw [5, 7] (fun v i wr => ∃ j : Nat, j ≤ s.slots.length ∧ i = .int .i64 j ∧ Below w.heap.size w wr ∧ Hid (SchBox wr w.heap.size s x) ∧ Hid (OwnN wr (w.heap.size + 1) (fun _ => False) 9 1 v ((ns.take j).map strD))) (fun _ i _ => s.slots.length - (intOf i).toNat)
  case atStart => exact ⟨0, Nat.zero_le _, rfl, (Below.refl _ _).alloc (Nat.le_refl _) _, HBX, Lib.hid (OwnN.nil _ _ _ _ _ (fun _ h => h.elim))⟩
  case round =>
    obtain ⟨j, hj, rfl, hb, HBX, HO⟩ := hrel
    obtain ⟨c0, c1, c2, c3, c4⟩ := HBX.out.cells
    obtain ⟨oa, ocap, ho⟩ := HO.out.form
    subst ho
    have hlen : ((ns.take j).map strD).length = j := by rw [List.length_map, List.length_take]; have := HNS.out.2.1; omega
    rw [hlen] at HO ⊢
    have HLN := Lib.hid hlen
    clear hlen
    by_cases hlt : j < s.slots.length
    · obtain ⟨hxa, hbl⟩ := HSL.out (by rw [List.length_map]; omega)
      obtain ⟨q0, q1⟩ := HN.out j hlt
      have e0 := (hb.cell (p := ⟨x.slots.b, x.slots.o + j * 3, none⟩) hbl).trans q0
      have hjn : j < ns.length := by have := HNS.out.2.1; omega
      have hnj : ns[j] = s.slots[j].name := by have h := HNS.out.1; subst h; simp
      have HT := Lib.hid (str_take hjn)
      rw [hnj] at HT
      have HF := Lib.hid (DsAt.flat1 (w := wr) (F := fun _ => False) (x := strD s.slots[j].name) rfl (by show (⟨(s.slots[j].name).toArray⟩ : ByteArray).size ≤ maxLen; rw [bs_size]; exact q1))
      have HB1 := Lib.hid hb
      have hlm := HNS.out.2.2
      rw [hxa] at c0
      clear q0 q1 hjn hnj hxa
      generalize s.slots[j].name = nm at HT HF e0
      go_wp2_with (at_builtin; go_must (refine wpList_append_oneO rfl rfl _ _ 119 rfl 9 i0 _ 1 16 Tryz.underlying119 hi hz0 hz1 hz2 rfl (by decide) (.slice oa j ocap) ((ns.take j).map strD) (strD nm) [.string ⟨nm.toArray⟩] 9 rfl rfl HO.out HF.out (by have := HBX.out.lt; omega) rfl (by rw [HLN.out]; unfold maxLen; omega) (by rw [HLN.out]; omega) ?_); intro ao cap w5 hon hb5; rw [HLN.out] at hon ⊢; have HON := Lib.hid (And.intro hon (And.intro (HB1.out.trans (hb5.mono (by omega))) (show SchBox w5 w.heap.size s x from (hb5.block _ (by omega)).trans HBX.out))); clear hon hb5)
      refine ⟨⟨j + 1, by omega, by go_num, HON.out.2.1, Lib.hid HON.out.2.2, Lib.hid ?_⟩, by simp [intOf]; omega⟩
      rw [HT.out]; exact HON.out.1
    · have HL : Hid (ns.take j = ns ∧ j = ns.length) := Lib.hid ⟨List.take_of_length_le (by have := HNS.out.2.1; omega), by have := HNS.out.2.1; omega⟩
      have HB1 := Lib.hid hb
      go_wp2_with fail
      go_ret
      have h := HO.out
      rw [HL.out.1] at h
      obtain ⟨x0, h0, h1⟩ := h.onto.sl (by rw [widths_map strD_flat, List.length_map])
      rw [List.length_map, ← HL.out.2] at h0
      refine ⟨x0, ?_, h1, HB1.out⟩
      show Ending.returned (.slice oa j ocap) = _
      rw [h0, SlA.val, ← HL.out.2]

set_option maxRecDepth 100000 in
set_option maxHeartbeats 2000000 in
theorem rnames_3 (s : Schl) (x : SchA) (w : World) (hs : SlIn w (· < w.heap.size) (s.rooms.map Rom.toD) x.rooms) (hl : s.rooms.length ≤ 2000000) (hN : ∀ (j : Nat) (hj : j < s.rooms.length), w.cell? ⟨x.rooms.b, x.rooms.o + j * 4, none⟩ = some (.string ⟨s.rooms[j].name.toArray⟩) ∧ s.rooms[j].name.length ≤ maxLen) :
    Calls Tryz.prog 53 #[.agg (x.cells s).toArray, .int .i64 3] w fun e w' => ∃ x0 : SlA, e = .returned (.slice x0.a (s.rooms.map Rom.name).length x0.cap) ∧ SlIn w' (· < w'.heap.size) ((s.rooms.map Rom.name).map strD) x0 ∧ Below w.heap.size w w' := by
  have HSL := Lib.hid hs.at_
  have HN := Lib.hid hN
  have hbx : SchBox (w.alloc (.cells (x.cells s).toArray 28)) w.heap.size s x := by unfold SchBox; rw [heap_get, if_pos rfl]
  have HBX := Lib.hid hbx
  obtain ⟨i0, hi, hz0, hz1, hz2⟩ := info_parts infoStr0
  obtain ⟨ns, hns⟩ : ∃ ns, ns = s.rooms.map Rom.name := ⟨_, rfl⟩
  have hln : ns.length = s.rooms.length := by rw [hns, List.length_map]
  have HNS := Lib.hid (And.intro hns (And.intro hln hl))
  rw [← hns]
  clear hs hN hbx hns hln hl
  simp only [SchA.cells, SlA.val] at HBX ⊢
  go_enter Tryz.func53, Tryz.ntmps53
  go_wp2_with fail
  go_loopw [5, 8] (fun v i wr => ∃ j : Nat, j ≤ s.rooms.length ∧ i = .int .i64 j ∧ Below w.heap.size w wr ∧ Hid (SchBox wr w.heap.size s x) ∧ Hid (OwnN wr (w.heap.size + 1) (fun _ => False) 9 1 v ((ns.take j).map strD))) (fun _ i _ => s.rooms.length - (intOf i).toNat)
  case atStart => exact ⟨0, Nat.zero_le _, rfl, (Below.refl _ _).alloc (Nat.le_refl _) _, HBX, Lib.hid (OwnN.nil _ _ _ _ _ (fun _ h => h.elim))⟩
  case round =>
    obtain ⟨j, hj, rfl, hb, HBX, HO⟩ := hrel
    obtain ⟨c0, c1, c2, c3, c4⟩ := HBX.out.cells
    obtain ⟨oa, ocap, ho⟩ := HO.out.form
    subst ho
    have hlen : ((ns.take j).map strD).length = j := by rw [List.length_map, List.length_take]; have := HNS.out.2.1; omega
    rw [hlen] at HO ⊢
    have HLN := Lib.hid hlen
    clear hlen
    by_cases hlt : j < s.rooms.length
    · obtain ⟨hxa, hbl⟩ := HSL.out (by rw [List.length_map]; omega)
      obtain ⟨q0, q1⟩ := HN.out j hlt
      have e0 := (hb.cell (p := ⟨x.rooms.b, x.rooms.o + j * 4, none⟩) hbl).trans q0
      have hjn : j < ns.length := by have := HNS.out.2.1; omega
      have hnj : ns[j] = s.rooms[j].name := by have h := HNS.out.1; subst h; simp
      have HT := Lib.hid (str_take hjn)
      rw [hnj] at HT
      have HF := Lib.hid (DsAt.flat1 (w := wr) (F := fun _ => False) (x := strD s.rooms[j].name) rfl (by show (⟨(s.rooms[j].name).toArray⟩ : ByteArray).size ≤ maxLen; rw [bs_size]; exact q1))
      have HB1 := Lib.hid hb
      have hlm := HNS.out.2.2
      rw [hxa] at c1
      clear q0 q1 hjn hnj hxa
      generalize s.rooms[j].name = nm at HT HF e0
      go_wp2_with (at_builtin; go_must (refine wpList_append_oneO rfl rfl _ _ 119 rfl 9 i0 _ 1 16 Tryz.underlying119 hi hz0 hz1 hz2 rfl (by decide) (.slice oa j ocap) ((ns.take j).map strD) (strD nm) [.string ⟨nm.toArray⟩] 9 rfl rfl HO.out HF.out (by have := HBX.out.lt; omega) rfl (by rw [HLN.out]; unfold maxLen; omega) (by rw [HLN.out]; omega) ?_); intro ao cap w5 hon hb5; rw [HLN.out] at hon ⊢; have HON := Lib.hid (And.intro hon (And.intro (HB1.out.trans (hb5.mono (by omega))) (show SchBox w5 w.heap.size s x from (hb5.block _ (by omega)).trans HBX.out))); clear hon hb5)
      refine ⟨⟨j + 1, by omega, by go_num, HON.out.2.1, Lib.hid HON.out.2.2, Lib.hid ?_⟩, by simp [intOf]; omega⟩
      rw [HT.out]; exact HON.out.1
    · have HL : Hid (ns.take j = ns ∧ j = ns.length) := Lib.hid ⟨List.take_of_length_le (by have := HNS.out.2.1; omega), by have := HNS.out.2.1; omega⟩
      have HB1 := Lib.hid hb
      go_wp2_with fail
      go_ret
      have h := HO.out
      rw [HL.out.1] at h
      obtain ⟨x0, h0, h1⟩ := h.onto.sl (by rw [widths_map strD_flat, List.length_map])
      rw [List.length_map, ← HL.out.2] at h0
      refine ⟨x0, ?_, h1, HB1.out⟩
      show Ending.returned (.slice oa j ocap) = _
      rw [h0, SlA.val, ← HL.out.2]

set_option maxRecDepth 100000 in
set_option maxHeartbeats 2000000 in
theorem rnames_4 (s : Schl) (x : SchA) (w : World) (hs : SlIn w (· < w.heap.size) (s.people.map Psn.toD) x.people) (hl : s.people.length ≤ 2000000) (hN : ∀ (j : Nat) (hj : j < s.people.length), w.cell? ⟨x.people.b, x.people.o + j * 2, none⟩ = some (.string ⟨s.people[j].name.toArray⟩) ∧ s.people[j].name.length ≤ maxLen) :
    Calls Tryz.prog 53 #[.agg (x.cells s).toArray, .int .i64 4] w fun e w' => ∃ x0 : SlA, e = .returned (.slice x0.a (s.people.map Psn.name).length x0.cap) ∧ SlIn w' (· < w'.heap.size) ((s.people.map Psn.name).map strD) x0 ∧ Below w.heap.size w w' := by
  have HSL := Lib.hid hs.at_
  have HN := Lib.hid hN
  have hbx : SchBox (w.alloc (.cells (x.cells s).toArray 28)) w.heap.size s x := by unfold SchBox; rw [heap_get, if_pos rfl]
  have HBX := Lib.hid hbx
  obtain ⟨i0, hi, hz0, hz1, hz2⟩ := info_parts infoStr0
  obtain ⟨ns, hns⟩ : ∃ ns, ns = s.people.map Psn.name := ⟨_, rfl⟩
  have hln : ns.length = s.people.length := by rw [hns, List.length_map]
  have HNS := Lib.hid (And.intro hns (And.intro hln hl))
  rw [← hns]
  clear hs hN hbx hns hln hl
  simp only [SchA.cells, SlA.val] at HBX ⊢
  go_enter Tryz.func53, Tryz.ntmps53
  go_wp2_with fail
  go_loopw [5, 9] (fun v i wr => ∃ j : Nat, j ≤ s.people.length ∧ i = .int .i64 j ∧ Below w.heap.size w wr ∧ Hid (SchBox wr w.heap.size s x) ∧ Hid (OwnN wr (w.heap.size + 1) (fun _ => False) 9 1 v ((ns.take j).map strD))) (fun _ i _ => s.people.length - (intOf i).toNat)
  case atStart => exact ⟨0, Nat.zero_le _, rfl, (Below.refl _ _).alloc (Nat.le_refl _) _, HBX, Lib.hid (OwnN.nil _ _ _ _ _ (fun _ h => h.elim))⟩
  case round =>
    obtain ⟨j, hj, rfl, hb, HBX, HO⟩ := hrel
    obtain ⟨c0, c1, c2, c3, c4⟩ := HBX.out.cells
    obtain ⟨oa, ocap, ho⟩ := HO.out.form
    subst ho
    have hlen : ((ns.take j).map strD).length = j := by rw [List.length_map, List.length_take]; have := HNS.out.2.1; omega
    rw [hlen] at HO ⊢
    have HLN := Lib.hid hlen
    clear hlen
    by_cases hlt : j < s.people.length
    · obtain ⟨hxa, hbl⟩ := HSL.out (by rw [List.length_map]; omega)
      obtain ⟨q0, q1⟩ := HN.out j hlt
      have e0 := (hb.cell (p := ⟨x.people.b, x.people.o + j * 2, none⟩) hbl).trans q0
      have hjn : j < ns.length := by have := HNS.out.2.1; omega
      have hnj : ns[j] = s.people[j].name := by have h := HNS.out.1; subst h; simp
      have HT := Lib.hid (str_take hjn)
      rw [hnj] at HT
      have HF := Lib.hid (DsAt.flat1 (w := wr) (F := fun _ => False) (x := strD s.people[j].name) rfl (by show (⟨(s.people[j].name).toArray⟩ : ByteArray).size ≤ maxLen; rw [bs_size]; exact q1))
      have HB1 := Lib.hid hb
      have hlm := HNS.out.2.2
      rw [hxa] at c2
      clear q0 q1 hjn hnj hxa
      generalize s.people[j].name = nm at HT HF e0
      go_wp2_with (at_builtin; go_must (refine wpList_append_oneO rfl rfl _ _ 119 rfl 9 i0 _ 1 16 Tryz.underlying119 hi hz0 hz1 hz2 rfl (by decide) (.slice oa j ocap) ((ns.take j).map strD) (strD nm) [.string ⟨nm.toArray⟩] 9 rfl rfl HO.out HF.out (by have := HBX.out.lt; omega) rfl (by rw [HLN.out]; unfold maxLen; omega) (by rw [HLN.out]; omega) ?_); intro ao cap w5 hon hb5; rw [HLN.out] at hon ⊢; have HON := Lib.hid (And.intro hon (And.intro (HB1.out.trans (hb5.mono (by omega))) (show SchBox w5 w.heap.size s x from (hb5.block _ (by omega)).trans HBX.out))); clear hon hb5)
      refine ⟨⟨j + 1, by omega, by go_num, HON.out.2.1, Lib.hid HON.out.2.2, Lib.hid ?_⟩, by simp [intOf]; omega⟩
      rw [HT.out]; exact HON.out.1
    · have HL : Hid (ns.take j = ns ∧ j = ns.length) := Lib.hid ⟨List.take_of_length_le (by have := HNS.out.2.1; omega), by have := HNS.out.2.1; omega⟩
      have HB1 := Lib.hid hb
      go_wp2_with fail
      go_ret
      have h := HO.out
      rw [HL.out.1] at h
      obtain ⟨x0, h0, h1⟩ := h.onto.sl (by rw [widths_map strD_flat, List.length_map])
      rw [List.length_map, ← HL.out.2] at h0
      refine ⟨x0, ?_, h1, HB1.out⟩
      show Ending.returned (.slice oa j ocap) = _
      rw [h0, SlA.val, ← HL.out.2]

set_option maxRecDepth 100000 in
set_option maxHeartbeats 2000000 in
theorem rnames_5 (s : Schl) (x : SchA) (w : World) (hs : SlIn w (· < w.heap.size) (s.groups.map Grp.toD) x.groups) (hl : s.groups.length ≤ 2000000) (hN : ∀ (j : Nat) (hj : j < s.groups.length), w.cell? ⟨x.groups.b, x.groups.o + j * 2, none⟩ = some (.string ⟨s.groups[j].name.toArray⟩) ∧ s.groups[j].name.length ≤ maxLen) :
    Calls Tryz.prog 53 #[.agg (x.cells s).toArray, .int .i64 5] w fun e w' => ∃ x0 : SlA, e = .returned (.slice x0.a (s.groups.map Grp.name).length x0.cap) ∧ SlIn w' (· < w'.heap.size) ((s.groups.map Grp.name).map strD) x0 ∧ Below w.heap.size w w' := by
  have HSL := Lib.hid hs.at_
  have HN := Lib.hid hN
  have hbx : SchBox (w.alloc (.cells (x.cells s).toArray 28)) w.heap.size s x := by unfold SchBox; rw [heap_get, if_pos rfl]
  have HBX := Lib.hid hbx
  obtain ⟨i0, hi, hz0, hz1, hz2⟩ := info_parts infoStr0
  obtain ⟨ns, hns⟩ : ∃ ns, ns = s.groups.map Grp.name := ⟨_, rfl⟩
  have hln : ns.length = s.groups.length := by rw [hns, List.length_map]
  have HNS := Lib.hid (And.intro hns (And.intro hln hl))
  rw [← hns]
  clear hs hN hbx hns hln hl
  simp only [SchA.cells, SlA.val] at HBX ⊢
  go_enter Tryz.func53, Tryz.ntmps53
  go_wp2_with fail
  go_loopw [5, 10] (fun v i wr => ∃ j : Nat, j ≤ s.groups.length ∧ i = .int .i64 j ∧ Below w.heap.size w wr ∧ Hid (SchBox wr w.heap.size s x) ∧ Hid (OwnN wr (w.heap.size + 1) (fun _ => False) 9 1 v ((ns.take j).map strD))) (fun _ i _ => s.groups.length - (intOf i).toNat)
  case atStart => exact ⟨0, Nat.zero_le _, rfl, (Below.refl _ _).alloc (Nat.le_refl _) _, HBX, Lib.hid (OwnN.nil _ _ _ _ _ (fun _ h => h.elim))⟩
  case round =>
    obtain ⟨j, hj, rfl, hb, HBX, HO⟩ := hrel
    obtain ⟨c0, c1, c2, c3, c4⟩ := HBX.out.cells
    obtain ⟨oa, ocap, ho⟩ := HO.out.form
    subst ho
    have hlen : ((ns.take j).map strD).length = j := by rw [List.length_map, List.length_take]; have := HNS.out.2.1; omega
    rw [hlen] at HO ⊢
    have HLN := Lib.hid hlen
    clear hlen
    by_cases hlt : j < s.groups.length
    · obtain ⟨hxa, hbl⟩ := HSL.out (by rw [List.length_map]; omega)
      obtain ⟨q0, q1⟩ := HN.out j hlt
      have e0 := (hb.cell (p := ⟨x.groups.b, x.groups.o + j * 2, none⟩) hbl).trans q0
      have hjn : j < ns.length := by have := HNS.out.2.1; omega
      have hnj : ns[j] = s.groups[j].name := by have h := HNS.out.1; subst h; simp
      have HT := Lib.hid (str_take hjn)
      rw [hnj] at HT
      have HF := Lib.hid (DsAt.flat1 (w := wr) (F := fun _ => False) (x := strD s.groups[j].name) rfl (by show (⟨(s.groups[j].name).toArray⟩ : ByteArray).size ≤ maxLen; rw [bs_size]; exact q1))
      have HB1 := Lib.hid hb
      have hlm := HNS.out.2.2
      rw [hxa] at c3
      clear q0 q1 hjn hnj hxa
      generalize s.groups[j].name = nm at HT HF e0
      go_wp2_with (at_builtin; go_must (refine wpList_append_oneO rfl rfl _ _ 119 rfl 9 i0 _ 1 16 Tryz.underlying119 hi hz0 hz1 hz2 rfl (by decide) (.slice oa j ocap) ((ns.take j).map strD) (strD nm) [.string ⟨nm.toArray⟩] 9 rfl rfl HO.out HF.out (by have := HBX.out.lt; omega) rfl (by rw [HLN.out]; unfold maxLen; omega) (by rw [HLN.out]; omega) ?_); intro ao cap w5 hon hb5; rw [HLN.out] at hon ⊢; have HON := Lib.hid (And.intro hon (And.intro (HB1.out.trans (hb5.mono (by omega))) (show SchBox w5 w.heap.size s x from (hb5.block _ (by omega)).trans HBX.out))); clear hon hb5)
      refine ⟨⟨j + 1, by omega, by go_num, HON.out.2.1, Lib.hid HON.out.2.2, Lib.hid ?_⟩, by simp [intOf]; omega⟩
      rw [HT.out]; exact HON.out.1
    · have HL : Hid (ns.take j = ns ∧ j = ns.length) := Lib.hid ⟨List.take_of_length_le (by have := HNS.out.2.1; omega), by have := HNS.out.2.1; omega⟩
      have HB1 := Lib.hid hb
      go_wp2_with fail
      go_ret
      have h := HO.out
      rw [HL.out.1] at h
      obtain ⟨x0, h0, h1⟩ := h.onto.sl (by rw [widths_map strD_flat, List.length_map])
      rw [List.length_map, ← HL.out.2] at h0
      refine ⟨x0, ?_, h1, HB1.out⟩
      show Ending.returned (.slice oa j ocap) = _
      rw [h0, SlA.val, ← HL.out.2]

set_option maxRecDepth 100000 in
theorem rnames_lit (s : Schl) (x : SchA) (sort : Int) (w : World) (h : sort = 6 ∨ sort = 7) :
    Calls Tryz.prog 53 #[.agg (x.cells s).toArray, .int .i64 sort] w fun e w' => ∃ x0 : SlA, e = .returned (.slice x0.a (schNames s sort).length x0.cap) ∧ SlIn w' (· < w'.heap.size) ((schNames s sort).map strD) x0 ∧ Below w.heap.size w w' := by
  have one : ∀ (W : World) (F : Nat → Prop) (l : List Bs), (∀ n ∈ l, n.length ≤ maxLen) → DsAt W F (l.map strD) (l.map (fun n => Value.string ⟨n.toArray⟩)) := fun W F l hl => by
    induction l with
    | nil => rw [List.map_nil, List.map_nil, DsAt]
    | cons n r ih =>
      rw [List.map_cons, List.map_cons, DsAt]
      exact ⟨[_], _, rfl, by unfold strD; rw [DAt]; exact ⟨rfl, by rw [bs_size]; exact hl n (by simp)⟩, ih (fun m hm => hl m (by simp [hm]))⟩
  have ONE := Lib.hid one
  clear one
  simp only [SchA.cells, SlA.val]
  have e6 : schNames s 6 = (List.range 7).map (fun i => [100, 97, 121, UInt8.ofNat (48 + i)]) := by unfold schNames; rw [if_neg (by decide), if_neg (by decide), if_neg (by decide), if_neg (by decide), if_neg (by decide), if_pos rfl]
  have e7 : schNames s 7 = (List.range 8).map (fun i => [104, 111, 117, 115, 101, UInt8.ofNat (48 + i)]) := by unfold schNames; rw [if_neg (by decide), if_neg (by decide), if_neg (by decide), if_neg (by decide), if_neg (by decide), if_neg (by decide), if_pos rfl]
  have E6 := Lib.hid e6
  have E7 := Lib.hid e7
  clear e6 e7
  rcases h with rfl | rfl
  · go_enter Tryz.func53, Tryz.ntmps53
    go_wp2_with fail
    go_ret
    have hb : Below w.heap.size w (w.alloc (.cells #[.slice x.slots.a s.slots.length x.slots.cap, .slice x.rooms.a s.rooms.length x.rooms.cap, .slice x.people.a s.people.length x.people.cap, .slice x.groups.a s.groups.length x.groups.cap, .slice x.lessons.a s.lessons.length x.lessons.cap] 28)) := (Below.refl _ _).alloc (Nat.le_refl _) _
    exact ⟨⟨some ⟨w.heap.size + 1, 0, none⟩, w.heap.size + 1, 0, 7⟩, rfl, SlIn.lit (cs := (schNames s 6).map (fun n => Value.string ⟨n.toArray⟩)) (by rw [heap_get, if_pos (by simp)]; rfl) (ONE.out _ _ _ (by rw [E6.out]; decide)) (by simp) (by rw [E6.out]; decide) (by decide), hb.alloc (by simp) _⟩
  · go_enter Tryz.func53, Tryz.ntmps53
    go_wp2_with fail
    go_ret
    have hb : Below w.heap.size w (w.alloc (.cells #[.slice x.slots.a s.slots.length x.slots.cap, .slice x.rooms.a s.rooms.length x.rooms.cap, .slice x.people.a s.people.length x.people.cap, .slice x.groups.a s.groups.length x.groups.cap, .slice x.lessons.a s.lessons.length x.lessons.cap] 28)) := (Below.refl _ _).alloc (Nat.le_refl _) _
    exact ⟨⟨some ⟨w.heap.size + 1, 0, none⟩, w.heap.size + 1, 0, 8⟩, rfl, SlIn.lit (cs := (schNames s 7).map (fun n => Value.string ⟨n.toArray⟩)) (by rw [heap_get, if_pos (by simp)]; rfl) (ONE.out _ _ _ (by rw [E7.out]; decide)) (by simp) (by rw [E7.out]; decide) (by decide), hb.alloc (by simp) _⟩

theorem rnames_any (s : Schl) (x : SchA) (sort : Int) (w : World) (hs : SchIn w (· < w.heap.size) s x) (hsm : SchSmall s) :
    Calls Tryz.prog 53 #[.agg (x.cells s).toArray, .int .i64 sort] w fun e w' => ∃ x0 : SlA, e = .returned (.slice x0.a (schNames s sort).length x0.cap) ∧ SlIn w' (· < w'.heap.size) ((schNames s sort).map strD) x0 ∧ Below w.heap.size w w' := by
  by_cases h1 : sort = 1
  · subst h1
    exact rnames_1 s x w hs.lessons hsm.lessons (fun j hj => by
      obtain ⟨_, _, _, _, h3, h4⟩ := hs.lessons.lsn j hj
      exact ⟨h4.three.1, h3⟩)
  by_cases h2 : sort = 2
  · subst h2
    exact rnames_2 s x w hs.slots hsm.slots (fun j hj => by
      obtain ⟨_, _, _, h4, h5⟩ := hs.slots.flat Slt.flatT
      have h6 := h5 _ (List.getElem_mem hj)
      refine ⟨(CellsAt.three (h4 j hj)).1, ?_⟩
      have h7 := h6.1
      rwa [D.fine, bs_size] at h7)
  by_cases h3 : sort = 3
  · subst h3
    exact rnames_3 s x w hs.rooms hsm.rooms (fun j hj => by
      obtain ⟨_, _, _, _, h3, h4⟩ := hs.rooms.rom j hj
      exact ⟨h4.four.1, h3⟩)
  by_cases h4 : sort = 4
  · subst h4
    exact rnames_4 s x w hs.people hsm.people (fun j hj => by
      obtain ⟨_, _, h3, h4⟩ := hs.people.psn j hj
      exact ⟨h4.two.1, h3⟩)
  by_cases h5 : sort = 5
  · subst h5
    exact rnames_5 s x w hs.groups hsm.groups (fun j hj => by
      obtain ⟨_, _, _, h4, h5⟩ := hs.groups.flat Grp.flatT
      have h6 := h5 _ (List.getElem_mem hj)
      refine ⟨(CellsAt.two (h4 j hj)).1, ?_⟩
      have h7 := h6.1
      rwa [D.fine, bs_size] at h7)
  by_cases h6 : sort = 6 ∨ sort = 7
  · exact rnames_lit s x sort w h6
  have e : schNames s sort = [] := by unfold schNames; rw [if_neg h1, if_neg h2, if_neg h3, if_neg h4, if_neg h5, if_neg (by omega), if_neg (by omega)]
  rw [e]
  exact rnames_none s x sort w (by omega)
end Go.Proofs.YtlfjjokcbeaekaaGreatDoor

/- The reference's Count, Many and Broad: they answer a number that is not great. -/
namespace Go.Proofs.YtlfjjokcbeaekaaGreatDoor
open Go.RowKit Go.Chalk

set_option maxRecDepth 100000 in
theorem rcount_any (s : Schl) (x : SchA) (sort : Int) (w : World) (hs : SchIn w (· < w.heap.size) s x) (hsm : SchSmall s) :
    Calls Tryz.prog 79 #[.agg (x.cells s).toArray, .int .i64 sort] w fun e w' => e = .returned (.int .i64 (schCount s sort)) ∧ Below w.heap.size w w' := by
  have hba : Below w.heap.size w (w.alloc (.cells (x.cells s).toArray 28)) := (Below.refl _ _).alloc (Nat.le_refl _) _
  have HC := Lib.hid (rnames_any s x sort _ (hs.later hba hba.size) hsm)
  have HB := Lib.hid hba
  have HR : Hid (schCount s sort = (schNames s sort).length) := Lib.hid rfl
  clear hs hba
  generalize schCount s sort = res at HR ⊢
  simp only [SchA.cells, SlA.val] at HC HB ⊢
  go_enter Tryz.func79, Tryz.ntmps79
  go_wp2_with fail
  refine HC.out.mono ?_
  rintro e w1 ⟨x0, rfl, hx0, hb⟩
  have HB1 := Lib.hid (HB.out.trans (hb.mono HB.out.size))
  clear hb hx0
  go_wp2_with fail
  go_ret
  exact ⟨ret_int (by rw [HR.out]), HB1.out⟩

set_option maxRecDepth 100000 in
set_option maxHeartbeats 1000000 in
theorem rmany_any (s : Schl) (x : SchA) (l : List Bnd) (y : SlA) (w : World) (hs : SchIn w (· < w.heap.size) s x) (hsm : SchSmall s) (hy : SlIn w (· < w.heap.size) (l.map Bnd.toD) y) (hl : l.length ≤ 2000000) :
    Calls Tryz.prog 35 #[.agg (x.cells s).toArray, .slice y.a l.length y.cap] w fun e w' => ∃ n : Nat, e = .returned (.int .i64 n) ∧ n ≤ 2097152 ∧ Below w.heap.size w w' := by
  have hba : Below w.heap.size w (w.alloc (.cells (x.cells s).toArray 28)) := (Below.refl _ _).alloc (Nat.le_refl _) _
  have hbx : SchBox (w.alloc (.cells (x.cells s).toArray 28)) w.heap.size s x := by unfold SchBox; rw [heap_get, if_pos rfl]
  have HCT := Lib.hid (fun (sort : Int) (W : World) (hW : Below w.heap.size w W) => rcount_any s x sort W (hs.later hW hW.size) hsm)
  have HLE := Lib.hid (fun sort => count_le hsm sort)
  obtain ⟨g1, _, _, g4, _⟩ := hy.flat Bnd.flatT
  have HC := Lib.hid g4
  have HSL := Lib.hid g1
  have HB := Lib.hid (And.intro hba hbx)
  clear hs hy hba hsm g1 g4 hbx
  simp only [SchA.cells, SlA.val] at HCT HB ⊢
  go_enter Tryz.func35, Tryz.ntmps35
  go_wp2_with fail
  go_loopw [5, 6] (fun nn i wr => ∃ j n : Nat, j ≤ l.length ∧ i = .int .i64 j ∧ nn = .int .i64 n ∧ n ≤ 2097152 ∧ Below w.heap.size w wr ∧ Hid (SchBox wr w.heap.size s x)) (fun _ i _ => l.length - (intOf i).toNat)
  case atStart => exact ⟨0, 1, Nat.zero_le _, rfl, rfl, by omega, HB.out.1, Lib.hid HB.out.2⟩
  case round =>
    obtain ⟨j, n, hj, rfl, rfl, hn, hb, HBX⟩ := hrel
    by_cases hlt : j < l.length
    · obtain ⟨hxa, hbl⟩ := HSL.out (by omega)
      obtain ⟨q0, q1⟩ := HC.out.two j hlt rfl
      have HK : Hid (∀ W, Below wr.heap.size wr W → (W.cell? ⟨w.heap.size, 0, none⟩ = some (.slice x.slots.a s.slots.length x.slots.cap) ∧ W.cell? ⟨w.heap.size, 1, none⟩ = some (.slice x.rooms.a s.rooms.length x.rooms.cap) ∧ W.cell? ⟨w.heap.size, 2, none⟩ = some (.slice x.people.a s.people.length x.people.cap) ∧ W.cell? ⟨w.heap.size, 3, none⟩ = some (.slice x.groups.a s.groups.length x.groups.cap) ∧ W.cell? ⟨w.heap.size, 4, none⟩ = some (.slice x.lessons.a s.lessons.length x.lessons.cap)) ∧ W.cell? ⟨y.b, y.o + j * 2 + 1, none⟩ = some (.int .i64 l[j].sort)) :=
        Lib.hid (fun W hW => ⟨(HBX.out.below hW).cells, ((hb.trans (hW.mono hb.size)).cell (p := ⟨y.b, y.o + j * 2 + 1, none⟩) hbl).trans q1⟩)
      have HB0 := Lib.hid (And.intro hb HBX.out)
      have HCJ := Lib.hid (HCT.out l[j].sort)
      have hle := HLE.out l[j].sort
      rw [hxa]
      clear q0 q1 hb hbl hxa
      generalize l[j].sort = so at HK HCJ hle
      generalize schCount s so = k at HCJ hle
      have hnk : n * k ≤ 2097152 * 2000000 := Nat.mul_le_mul hn hle
      obtain ⟨m, hm⟩ : ∃ m : Nat, m = n * k := ⟨_, rfl⟩
      have HM : Hid (((n : Int) * (k : Int)) = (m : Int)) := Lib.hid (by rw [hm]; exact (Int.natCast_mul n k).symm)
      rw [← hm] at hnk
      clear hm hle
      go_wp2_with fail
      go_region_held3 (fun w' => (w'.cell? ⟨w.heap.size, 0, none⟩ = some (.slice x.slots.a s.slots.length x.slots.cap) ∧ w'.cell? ⟨w.heap.size, 1, none⟩ = some (.slice x.rooms.a s.rooms.length x.rooms.cap) ∧ w'.cell? ⟨w.heap.size, 2, none⟩ = some (.slice x.people.a s.people.length x.people.cap) ∧ w'.cell? ⟨w.heap.size, 3, none⟩ = some (.slice x.groups.a s.groups.length x.groups.cap) ∧ w'.cell? ⟨w.heap.size, 4, none⟩ = some (.slice x.lessons.a s.lessons.length x.lessons.cap)) ∧ w'.cell? ⟨y.b, y.o + j * 2 + 1, none⟩ = some (.int .i64 so)) ((refine HK.out _ ?_; first | exact HC1.out.1 | exact (Below.refl _ _).drew | fail)) (first
        | (go_at_call 79; refine (HCJ.out _ HB0.out.1.drew).mono ?_; rintro e w1 ⟨rfl, hbb⟩; have HC1 := Lib.hid (And.intro ((Below.refl _ _).drew.trans hbb) (HB0.out.1.drew.trans (hbb.mono HB0.out.1.drew.size))); clear hbb))
      all_goals
        have hmn : min (IntKind.i64.wrap ((n : Int) * (k : Int))) 2097152 = ((min m 2097152 : Nat) : Int) := by rw [HM.out, IntWalk.i64_in _ (by omega)]; omega
        rw [hmn]
        go_wp2_with fail
        exact ⟨⟨j + 1, min m 2097152, by omega, by go_num, rfl, by omega, HC1.out.2, Lib.hid (HB0.out.2.below (HC1.out.1.mono (Nat.le_refl _)))⟩, by simp [intOf]; omega⟩
    · have HB0 := Lib.hid hb
      go_wp2_with fail
      go_ret
      exact ⟨n, rfl, hn, HB0.out⟩
set_option maxRecDepth 100000 in
set_option maxHeartbeats 2000000 in
theorem rbroad_any (s : Schl) (x : SchA) (hsm : SchSmall s) (m : Nat) : ∀ (f : Frm) (y : FrmA) (w : World), f.size ≤ m → f.size ≤ 2000000 → (∀ g ∈ nodesF f, g.binds.length ≤ 2000000) → SchIn w (· < w.heap.size) s x → FrmIn w (· < w.heap.size) f y →
    Calls Tryz.prog 27 #[.agg (x.cells s).toArray, ndV (f, y)] w fun e w' => ∃ n : Nat, e = .returned (.int .i64 n) ∧ n ≤ 2097152 ∧ Below w.heap.size w w' := by
  induction m with
  | zero => intro f _ _ h; have := f.size_pos; omega
  | succ m ih =>
    rintro ⟨kind, name, n, terms, binds, fl⟩ y w hm hsz hnd hs hy
    rw [Frm.size] at hm hsz
    have hll := length_le_fsizes fl
    have hba : Below w.heap.size w ((w.alloc (.cells (x.cells s).toArray 28)).alloc (.cells (y.cells (.mk kind name n terms binds fl)).toArray 37)) := ((Below.refl _ _).alloc (Nat.le_refl _) _).alloc (by simp) _
    have hbx : SchBox ((w.alloc (.cells (x.cells s).toArray 28)).alloc (.cells (y.cells (.mk kind name n terms binds fl)).toArray 37)) w.heap.size s x := by unfold SchBox; rw [heap_get, if_neg (by simp), heap_get, if_pos rfl]
    have hby : ((w.alloc (.cells (x.cells s).toArray 28)).alloc (.cells (y.cells (.mk kind name n terms binds fl)).toArray 37)).heap[w.heap.size + 1]? = some (.cells (y.cells (.mk kind name n terms binds fl)).toArray 37 (0, 0)) := by rw [heap_get, if_pos (by simp)]
    have HFI : Hid (∀ (j : Nat) (hj : j < fl.length), ∃ y1 : FrmA, FrmIn w (· < w.heap.size) fl[j] y1 ∧ CellsAt w y.l.b (y.l.o + j * 6) (y1.cells fl[j])) := Lib.hid (fun j hj => hy.l.frm j hj)
    have HFS : Hid (SlAt (· < w.heap.size) y.l.a y.l.b y.l.o fl.length) := Lib.hid (by have := hy.l.at_; rw [List.length_map] at this; exact this)
    have HIH := Lib.hid (fun (j : Nat) (hj : j < fl.length) (y1 : FrmA) (W : World) (hW : Below w.heap.size w W) (h1 : FrmIn w (· < w.heap.size) fl[j] y1) => ih fl[j] y1 W (by have := size_le_fsizes fl j hj; omega) (by have := size_le_fsizes fl j hj; omega) (fun g hg => hnd g (by
      rw [nodesF]
      exact List.mem_cons_of_mem _ (by rw [nodesL_eq]; exact List.mem_flatten.2 ⟨_, List.mem_map.2 ⟨_, List.getElem_mem hj, rfl⟩, hg⟩))) (hs.later hW hW.size) (h1.later hW hW.size))
    have HMY := Lib.hid (fun (W : World) (hW : Below w.heap.size w W) => rmany_any s x binds y.b W (hs.later hW hW.size) hsm (hy.binds.later hW hW.size) (show binds.length ≤ 2000000 from hnd (.mk kind name n terms binds fl) (by rw [nodesF]; exact List.mem_cons_self ..)))
    have HB := Lib.hid (And.intro hba (And.intro hbx hby))
    clear ih hnd hs hy hba hbx hby
    simp only [ndV, SchA.cells, FrmA.cells, SlA.val, Frm.kind, Frm.name, Frm.n, Frm.terms, Frm.binds, Frm.l] at HB HMY ⊢
    go_enter Tryz.func27, Tryz.ntmps27
    go_wp2_with fail
    go_loopw [5, 6] (fun nn i wr => ∃ j q : Nat, j ≤ fl.length ∧ i = .int .i64 j ∧ nn = .int .i64 q ∧ q ≤ 2097152 ∧ Below w.heap.size w wr ∧ Hid (SchBox wr w.heap.size s x ∧ wr.heap[w.heap.size + 1]? = some (.cells #[.int .i64 kind, .string ⟨name.toArray⟩, .int .i64 n, .slice y.t.a terms.length y.t.cap, .slice y.b.a binds.length y.b.cap, .slice y.l.a fl.length y.l.cap] 37 (0, 0)))) (fun _ i _ => fl.length - (intOf i).toNat)
    case atStart => exact ⟨0, 0, Nat.zero_le _, rfl, rfl, by omega, HB.out.1, Lib.hid HB.out.2⟩
    case round =>
      obtain ⟨j, q, hj, rfl, rfl, hq, hb, HBX⟩ := hrel
      have b0 : wr.cell? ⟨w.heap.size + 1, 0, none⟩ = some (.int .i64 kind) := cell_of_heap HBX.out.2 rfl
      have b4 : wr.cell? ⟨w.heap.size + 1, 4, none⟩ = some (.slice y.b.a binds.length y.b.cap) := cell_of_heap HBX.out.2 rfl
      have b5 : wr.cell? ⟨w.heap.size + 1, 5, none⟩ = some (.slice y.l.a fl.length y.l.cap) := cell_of_heap HBX.out.2 rfl
      have HB0 := Lib.hid hb
      by_cases hlt : j < fl.length
      · obtain ⟨y1, hy1, hy2⟩ := HFI.out j hlt
        obtain ⟨hxa, hFb⟩ := HFS.out (by omega)
        have HCL := Lib.hid (fun (W : World) (hW : Below w.heap.size w W) => HIH.out j hlt y1 W hW hy1)
        have HK : Hid (∀ w', Below wr.heap.size wr w' → (w'.cell? ⟨w.heap.size, 0, none⟩ = some (.slice x.slots.a s.slots.length x.slots.cap) ∧ w'.cell? ⟨w.heap.size, 1, none⟩ = some (.slice x.rooms.a s.rooms.length x.rooms.cap) ∧ w'.cell? ⟨w.heap.size, 2, none⟩ = some (.slice x.people.a s.people.length x.people.cap) ∧ w'.cell? ⟨w.heap.size, 3, none⟩ = some (.slice x.groups.a s.groups.length x.groups.cap) ∧ w'.cell? ⟨w.heap.size, 4, none⟩ = some (.slice x.lessons.a s.lessons.length x.lessons.cap)) ∧ (w'.cell? ⟨w.heap.size + 1, 5, none⟩ = some (.slice (some ⟨y.l.b, y.l.o, none⟩) fl.length y.l.cap)) ∧ (w'.cell? ⟨y.l.b, y.l.o + j * 6, none⟩ = some (.int .i64 fl[j].kind) ∧ w'.cell? ⟨y.l.b, y.l.o + j * 6 + 1, none⟩ = some (.string ⟨fl[j].name.toArray⟩) ∧ w'.cell? ⟨y.l.b, y.l.o + j * 6 + 2, none⟩ = some (.int .i64 fl[j].n) ∧ w'.cell? ⟨y.l.b, y.l.o + j * 6 + 3, none⟩ = some (.slice y1.t.a fl[j].terms.length y1.t.cap) ∧ w'.cell? ⟨y.l.b, y.l.o + j * 6 + 4, none⟩ = some (.slice y1.b.a fl[j].binds.length y1.b.cap) ∧ w'.cell? ⟨y.l.b, y.l.o + j * 6 + 5, none⟩ = some (.slice y1.l.a fl[j].l.length y1.l.cap))) :=
          Lib.hid (fun W hW => by
            have hbW := HB0.out.trans (hW.mono HB0.out.size)
            have h5 := (hW.block _ (Array.getElem?_eq_some_iff.1 HBX.out.2).1).trans HBX.out.2
            rw [hxa] at h5
            exact ⟨(HBX.out.1.below hW).cells, cell_of_heap h5 rfl, (hy2.agree (agree_of_below hbW) hFb).six⟩)
        rw [hxa] at b5 HBX ⊢
        clear hy1 hy2 hFb hxa hb
        generalize fl[j] = fe at HCL HK
        obtain ⟨kind1, name1, n1, terms1, binds1, fl1⟩ := fe
        simp only [ndV, SchA.cells, FrmA.cells, SlA.val, Frm.kind, Frm.name, Frm.n, Frm.terms, Frm.binds, Frm.l] at HCL HK
        go_wp2_with fail
        go_region_held3 (fun w' => (w'.cell? ⟨w.heap.size, 0, none⟩ = some (.slice x.slots.a s.slots.length x.slots.cap) ∧ w'.cell? ⟨w.heap.size, 1, none⟩ = some (.slice x.rooms.a s.rooms.length x.rooms.cap) ∧ w'.cell? ⟨w.heap.size, 2, none⟩ = some (.slice x.people.a s.people.length x.people.cap) ∧ w'.cell? ⟨w.heap.size, 3, none⟩ = some (.slice x.groups.a s.groups.length x.groups.cap) ∧ w'.cell? ⟨w.heap.size, 4, none⟩ = some (.slice x.lessons.a s.lessons.length x.lessons.cap)) ∧ (w'.cell? ⟨w.heap.size + 1, 5, none⟩ = some (.slice (some ⟨y.l.b, y.l.o, none⟩) fl.length y.l.cap)) ∧ (w'.cell? ⟨y.l.b, y.l.o + j * 6, none⟩ = some (.int .i64 kind1) ∧ w'.cell? ⟨y.l.b, y.l.o + j * 6 + 1, none⟩ = some (.string ⟨name1.toArray⟩) ∧ w'.cell? ⟨y.l.b, y.l.o + j * 6 + 2, none⟩ = some (.int .i64 n1) ∧ w'.cell? ⟨y.l.b, y.l.o + j * 6 + 3, none⟩ = some (.slice y1.t.a terms1.length y1.t.cap) ∧ w'.cell? ⟨y.l.b, y.l.o + j * 6 + 4, none⟩ = some (.slice y1.b.a binds1.length y1.b.cap) ∧ w'.cell? ⟨y.l.b, y.l.o + j * 6 + 5, none⟩ = some (.slice y1.l.a fl1.length y1.l.cap))) ((refine HK.out _ ?_; first | exact HC1.out.1 | exact (Below.refl _ _).drew | fail)) (first
          | (go_at_call 27; refine (HCL.out _ HB0.out.drew).mono ?_; rintro e w1 ⟨q1, rfl, hq1, hbb⟩; have HC1 := Lib.hid (And.intro ((Below.refl _ _).drew.trans hbb) (HB0.out.drew.trans (hbb.mono HB0.out.drew.size))); clear hbb))
        all_goals
          have hmn : min (IntKind.i64.wrap ((q : Int) + (q1 : Int))) 2097152 = ((min (q + q1) 2097152 : Nat) : Int) := by rw [IntWalk.i64_in _ (by omega)]; omega
          rw [hmn]
          go_wp2_with fail
          exact ⟨⟨j + 1, min (q + q1) 2097152, by omega, by go_num, rfl, by omega, HC1.out.2, Lib.hid ⟨HBX.out.1.below (HC1.out.1.mono (Nat.le_refl _)), (HC1.out.1.block _ (Array.getElem?_eq_some_iff.1 HBX.out.2).1).trans HBX.out.2⟩⟩, by simp [intOf]; omega⟩
      · have HMW := Lib.hid (HMY.out wr HB0.out)
        obtain ⟨c0, c1, c2, c3, c4⟩ := HBX.out.1.cells
        by_cases hk : (14 : Int) ≤ kind
        · clear hb
          go_wp2_with fail
          refine HMW.out.mono ?_
          rintro e w1 ⟨q1, rfl, hq1, hbb⟩
          have HC1 := Lib.hid (HB0.out.trans (hbb.mono HB0.out.size))
          clear hbb
          have hnk : q * q1 ≤ 2097152 * 2097152 := Nat.mul_le_mul hq hq1
          obtain ⟨mm, hmm⟩ : ∃ mm : Nat, mm = q * q1 := ⟨_, rfl⟩
          have HM : Hid (((q : Int) * (q1 : Int)) = (mm : Int)) := Lib.hid (by rw [hmm]; exact (Int.natCast_mul q q1).symm)
          rw [← hmm] at hnk
          have W64 : Hid (∀ n : Int, -9223372036854775808 ≤ n → n ≤ 9223372036854775807 → wrap64 n = n) := Lib.hid (fun n h1 h2 => IntWalk.wrap64_in n ⟨h1, h2⟩)
          clear hmm
          go_wp2_with fail
          go_ret
          exact ⟨min (min mm 2097152 + 1) 2097152, ret_int (by rw [HM.out, W64.out mm (by omega) (by omega), W64.out (min (mm : Int) 2097152 + 1) (by omega) (by omega)]; omega), by omega, HC1.out⟩
        · have hk' : decide ((14 : Int) ≤ kind) = false := by simpa using hk
          clear hk hb
          go_wp2_with fail
          go_ret
          exact ⟨min (q + 1) 2097152, ret_int (by omega), by omega, HB0.out⟩
end Go.Proofs.YtlfjjokcbeaekaaGreatDoor
