/- Joined texts: TypB, TypC, TypD, TypE. -/
import Derived.Test.YtlfjjokcbeaekaaGreatDoorB28
import Derived.Test.YtlfjjokcbeaekaaGreatDoorB10
import Derived.Deep.RegionWith

/- types: sorts. -/
namespace Go.Chalk
open Go.RowKit
def badWant (want : Option (List Int)) (i : Nat) (s : Int) : Bool := match want with | some ws => ws[i]?.getD 0 != s | none => false
/-- types.sorts, from the i-th term on. -/
def sortsGo (a : List Bnd) (want : Option (List Int)) : List Trm → Nat → List Int → List Int × Int
  | [], _, out => (out, 0)
  | t :: r, i, out => if (sortF a t).2 ≠ 0 then ([], (sortF a t).2) else if badWant want i (sortF a t).1 = true then ([], 80) else sortsGo a want r (i + 1) (out ++ [(sortF a t).1])
def sortsF (a : List Bnd) (want : Option (List Int)) (l : List Trm) : List Int × Int := sortsGo a want l 0 []
theorem sortsGo_err {a : List Bnd} {want : Option (List Int)} {l : List Trm} {j : Nat} {out : List Int} (hj : j < l.length) {e1 : Int} (he : (sortF a l[j]).2 = e1) (h : e1 ≠ 0) : sortsGo a want (l.drop j) j out = ([], e1) := by
  rw [List.drop_eq_getElem_cons hj, sortsGo, if_pos (by rw [he]; exact h), he]
theorem sortsGo_want {a : List Bnd} {ws : List Int} {l : List Trm} {j : Nat} {out : List Int} (hj : j < l.length) (he : (sortF a l[j]).2 = 0) {x s : Int} (hs : (sortF a l[j]).1 = s) (hx : ws[j]?.getD 0 = x) (h : x ≠ s) : sortsGo a (some ws) (l.drop j) j out = ([], 80) := by
  rw [List.drop_eq_getElem_cons hj, sortsGo, if_neg (by rw [he]; simp), if_pos (by unfold badWant; simp only [hx, hs]; simpa using h)]
theorem sortsGo_next {a : List Bnd} {want : Option (List Int)} {l : List Trm} {j : Nat} {out : List Int} (hj : j < l.length) (he : (sortF a l[j]).2 = 0) {s : Int} (hs : (sortF a l[j]).1 = s) (h : badWant want j s = false) : sortsGo a want (l.drop j) j out = sortsGo a want (l.drop (j + 1)) (j + 1) (out ++ [s]) := by
  conv => lhs; rw [List.drop_eq_getElem_cons hj, sortsGo, if_neg (by rw [he]; simp), hs]
  rw [if_neg (by rw [h]; simp)]
theorem sortF_i64 {a : List Bnd} (h : ∀ b ∈ a, I64 b.sort) (t : Trm) : I64 (sortF a t).1 ∧ I64 (sortF a t).2 := by
  have k : ∀ n : Int, 0 ≤ n → n ≤ 100 → I64 n := fun n h1 h2 => i64_small (by omega) (by omega)
  unfold sortF
  split
  · exact ⟨k _ (by decide) (by decide), k _ (by decide) (by decide)⟩
  · split
    · exact ⟨k _ (by decide) (by decide), k _ (by decide) (by decide)⟩
    · split
      · exact ⟨k _ (by decide) (by decide), k _ (by decide) (by decide)⟩
      · rename_i b hb
        split
        · exact ⟨h _ (List.mem_of_getElem? hb), k 0 (by decide) (by decide)⟩
        · split
          · exact ⟨k _ (by decide) (by decide), k _ (by decide) (by decide)⟩
          · refine ⟨?_, k 0 (by decide) (by decide)⟩
            unfold takesF
            repeat' split
            all_goals exact k _ (by decide) (by decide)
end Go.Chalk
namespace Go.Proofs.YtlfjjokcbeaekaaGreatDoor
open Go.RowKit Go.Chalk

set_option maxRecDepth 100000 in
set_option maxHeartbeats 1000000 in
theorem sorts_nil (a : List Bnd) (x : SlA) (l : List Trm) (y : SlA) (w : World) (hx : SlIn w (· < w.heap.size) (a.map Bnd.toD) x) (hy : SlIn w (· < w.heap.size) (l.map Trm.toD) y) (hl : a.length ≤ 2000000) (hly : l.length ≤ 2000000)
    (hk : ∀ t ∈ l, 1 ≤ t.kind ∧ t.kind ≤ 7) (hg : GG w) :
    Calls Tryz.prog 103 #[.slice y.a l.length y.cap, .func (.func 104) #[.slice x.a a.length x.cap] #[], .slice none 0 0] w fun e w' => ∃ v, e = .returned (.tuple #[v, .int .i64 (sortsF a none l).2]) ∧ Onto1 w' w.heap.size (fun _ => False) 3 1 v (dints (sortsF a none l).1) ∧ Below w.heap.size w w' := by
  obtain ⟨g1, _, _, g4, g5⟩ := hy.flat Trm.flatT
  have HC := Lib.hid g4
  have HY := Lib.hid hy
  have HX := Lib.hid hx
  have hbi : ∀ b ∈ a, I64 b.sort := fun b hb => by
    obtain ⟨_, _, _, _, k5⟩ := hx.flat Bnd.flatT
    have := (k5 b hb).2.1
    exact I64.of_wf this
  have HS := Lib.hid (fun t => sortF_i64 hbi t)
  have HK := Lib.hid (fun (j : Nat) (hj : j < l.length) => hk _ (List.getElem_mem hj))
  have HG := Lib.hid hg
  
  obtain ⟨i0, hi, hz0, hz1, hz2⟩ := info_parts infoInt
  clear hx hy hg g4 g5 hbi hk
  go_enter Tryz.func103, Tryz.ntmps103
  go_wp2_with fail
  go_loopw [6, 7, 14] (fun o ee i wr => ∃ (j : Nat) (out : List Int), j ≤ l.length ∧ i = .int .i64 j ∧ ee = .int .i64 0 ∧ Below w.heap.size w wr ∧ Hid (Onto1 wr w.heap.size (fun _ => False) 3 1 o (dints out)) ∧ Hid (out.length = j ∧ AllI64 out ∧ sortsF a none l = sortsGo a none (l.drop j) j out)) (fun _ _ i _ => l.length - (intOf i).toNat)
  case atStart => exact ⟨0, [], Nat.zero_le _, rfl, rfl, Below.refl _ _, Lib.hid (Onto1.nil _ _ _ _ _ (fun _ h => h.elim)), Lib.hid ⟨rfl, (by intro z hz; cases hz), rfl⟩⟩
  case round =>
    obtain ⟨j, out, hj, rfl, rfl, hb, HO, HE⟩ := hrel
    obtain ⟨oa, ocap, ho⟩ := HO.out.form
    subst ho
    obtain ⟨n, hn⟩ : ∃ n, n = (dints out).length := ⟨_, rfl⟩
    rw [← hn] at HO ⊢
    have HN := Lib.hid hn
    clear hn
    by_cases hlt : j < l.length
    · obtain ⟨hxa, hbl⟩ := g1 (by omega)
      obtain ⟨q0, q1, q2⟩ := HC.out.three j hlt rfl
      have e0 := (hb.cell (p := ⟨y.b, y.o + j * 3, none⟩) hbl).trans q0
      have e1 := (hb.cell (p := ⟨y.b, y.o + j * 3 + 1, none⟩) hbl).trans q1
      have e2 := (hb.cell (p := ⟨y.b, y.o + j * 3 + 2, none⟩) hbl).trans q2
      have hba : Below w.heap.size w (wr.alloc (.cells #[.int .i64 l[j].kind, .string ⟨l[j].name.toArray⟩, .int .i64 l[j].n] 116)) := hb.alloc hb.size _
      have HS1 := Lib.hid (sort_any a x l[j] _ (HX.out.later hba hba.size) hl (HK.out j hlt) (HG.out.below hba))
      have HO1 := Lib.hid (HO.out.below ((Below.refl _ _).alloc (Nat.le_refl _) (.cells #[.int .i64 l[j].kind, .string ⟨l[j].name.toArray⟩, .int .i64 l[j].n] 116)))
      obtain ⟨s1, hs1⟩ : ∃ s1, (sortF a l[j]).1 = s1 := ⟨_, rfl⟩
      obtain ⟨c1, hc1⟩ : ∃ c1, (sortF a l[j]).2 = c1 := ⟨_, rfl⟩
      have HI := Lib.hid (HS.out l[j])
      rw [hs1, hc1] at HS1 HI
      have HF := Lib.hid (And.intro hs1 hc1)
      have HBA := Lib.hid hba
      rw [hxa]
      clear q0 q1 q2 hba hs1 hc1
      generalize hte : l[j] = te at HS1 HBA HO1 e0 e1 e2
      obtain ⟨tk, tn, tv⟩ := te
      simp only at HS1 HBA HO1 e0 e1 e2
      clear hte
      have hc : (c1 = 0 ∧ (c1 == 0) = true) ∨ (¬ c1 = 0 ∧ (c1 == 0) = false) := by by_cases h : c1 = 0 <;> simp [h]
      go_wp2_with fail
      refine HS1.out.mono ?_
      rintro e w1 ⟨rfl, hb1⟩
      have HB1 := Lib.hid (HBA.out.trans (hb1.mono HBA.out.size))
      have HO2 := Lib.hid (HO1.out.below hb1)
      clear hb1
      rcases hc with ⟨hc1, hc2⟩ | ⟨hc1, hc2⟩
      · subst hc1
        clear hc2
        go_wp2_with (at_builtin; go_must (refine wpList_append_one rfl _ _ 69 rfl 3 i0 _ 1 8 Tryz.underlying69 hi hz0 hz1 hz2 rfl (by decide) (.slice oa n ocap) (dints out) (.int .i64 s1) [.int .i64 s1] 3 rfl rfl HO2.out (DsAt.flat1 (x := .int .i64 s1) rfl HI.out.1.wf) (by have := HB1.out.size; omega) rfl (by rw [dints_widths]; simp) (by have := HE.out.1; rw [dints_length]; unfold maxLen; omega) (by have := HE.out.1; rw [dints_length]; omega) ?_); intro ao cap w5 hon hb5; have HON := Lib.hid (And.intro hon (HB1.out.trans hb5)); clear hon hb5; rw [← HN.out])
        refine ⟨⟨j + 1, out ++ [s1], by omega, by go_num, rfl, HON.out.2, Lib.hid ?_, Lib.hid ⟨by have := HE.out.1; simp; omega, fun z hz => ?_, by rw [HE.out.2.2, sortsGo_next hlt HF.out.2 HF.out.1 rfl]⟩⟩, by simp [intOf]; omega⟩
        · rw [dints_append, HN.out]; exact HON.out.1
        · rcases List.mem_append.1 hz with hz | hz
          · exact HE.out.2.1 z hz
          · simp at hz; subst hz; exact HI.out.1
      · have HCN := Lib.hid hc1
        clear hc1
        go_wp2_with fail
        go_ret2
        refine ⟨.slice none 0 0, by rw [HE.out.2.2, sortsGo_err hlt HF.out.2 HCN.out]; rfl, ?_, HB1.out⟩
        rw [HE.out.2.2, sortsGo_err hlt HF.out.2 HCN.out]
        exact Onto1.nil _ _ _ _ _ (fun _ h => h.elim)
    · go_wp2_with fail
      go_ret2
      have he : sortsF a none l = (out, 0) := by rw [HE.out.2.2, List.drop_eq_nil_of_le (by omega), sortsGo]
      rw [he]
      exact ⟨_, rfl, HO.out, hb⟩
set_option maxRecDepth 100000 in
set_option maxHeartbeats 1000000 in
theorem sorts_want (a : List Bnd) (x : SlA) (l : List Trm) (y : SlA) (ws : List Int) (wb wo wc : Nat) (w : World) (hx : SlIn w (· < w.heap.size) (a.map Bnd.toD) x) (hy : SlIn w (· < w.heap.size) (l.map Trm.toD) y) (hl : a.length ≤ 2000000) (hly : l.length ≤ 2000000)
    (hk : ∀ t ∈ l, 1 ≤ t.kind ∧ t.kind ≤ 7) (hwl : ws.length = l.length) (hwb : wb < w.heap.size) (hwc : ∀ i (h : i < ws.length), w.cell? ⟨wb, wo + i, none⟩ = some (.int .i64 ws[i])) (hg : GG w) :
    Calls Tryz.prog 103 #[.slice y.a l.length y.cap, .func (.func 104) #[.slice x.a a.length x.cap] #[], .slice (some ⟨wb, wo, none⟩) ws.length wc] w fun e w' => ∃ v, e = .returned (.tuple #[v, .int .i64 (sortsF a (some ws) l).2]) ∧ Onto1 w' w.heap.size (fun _ => False) 3 1 v (dints (sortsF a (some ws) l).1) ∧ Below w.heap.size w w' := by
  obtain ⟨g1, _, _, g4, g5⟩ := hy.flat Trm.flatT
  have HC := Lib.hid g4
  have HY := Lib.hid hy
  have HX := Lib.hid hx
  have hbi : ∀ b ∈ a, I64 b.sort := fun b hb => by
    obtain ⟨_, _, _, _, k5⟩ := hx.flat Bnd.flatT
    have := (k5 b hb).2.1
    exact I64.of_wf this
  have HS := Lib.hid (fun t => sortF_i64 hbi t)
  have HK := Lib.hid (fun (j : Nat) (hj : j < l.length) => hk _ (List.getElem_mem hj))
  have HG := Lib.hid hg
  have HW := Lib.hid (And.intro hwb hwc)
  have HWL := Lib.hid hwl
  clear hwc hwl
  obtain ⟨i0, hi, hz0, hz1, hz2⟩ := info_parts infoInt
  clear hx hy hg g4 g5 hbi hk
  go_enter Tryz.func103, Tryz.ntmps103
  go_wp2_with fail
  go_loopw [6, 7, 14] (fun o ee i wr => ∃ (j : Nat) (out : List Int), j ≤ l.length ∧ i = .int .i64 j ∧ ee = .int .i64 0 ∧ Below w.heap.size w wr ∧ Hid (Onto1 wr w.heap.size (fun _ => False) 3 1 o (dints out)) ∧ Hid (out.length = j ∧ AllI64 out ∧ sortsF a (some ws) l = sortsGo a (some ws) (l.drop j) j out)) (fun _ _ i _ => l.length - (intOf i).toNat)
  case atStart => exact ⟨0, [], Nat.zero_le _, rfl, rfl, Below.refl _ _, Lib.hid (Onto1.nil _ _ _ _ _ (fun _ h => h.elim)), Lib.hid ⟨rfl, (by intro z hz; cases hz), rfl⟩⟩
  case round =>
    obtain ⟨j, out, hj, rfl, rfl, hb, HO, HE⟩ := hrel
    obtain ⟨oa, ocap, ho⟩ := HO.out.form
    subst ho
    obtain ⟨n, hn⟩ : ∃ n, n = (dints out).length := ⟨_, rfl⟩
    rw [← hn] at HO ⊢
    have HN := Lib.hid hn
    clear hn
    by_cases hlt : j < l.length
    · obtain ⟨hxa, hbl⟩ := g1 (by omega)
      obtain ⟨q0, q1, q2⟩ := HC.out.three j hlt rfl
      have e0 := (hb.cell (p := ⟨y.b, y.o + j * 3, none⟩) hbl).trans q0
      have e1 := (hb.cell (p := ⟨y.b, y.o + j * 3 + 1, none⟩) hbl).trans q1
      have e2 := (hb.cell (p := ⟨y.b, y.o + j * 3 + 2, none⟩) hbl).trans q2
      have hba : Below w.heap.size w (wr.alloc (.cells #[.int .i64 l[j].kind, .string ⟨l[j].name.toArray⟩, .int .i64 l[j].n] 116)) := hb.alloc hb.size _
      have HS1 := Lib.hid (sort_any a x l[j] _ (HX.out.later hba hba.size) hl (HK.out j hlt) (HG.out.below hba))
      have HO1 := Lib.hid (HO.out.below ((Below.refl _ _).alloc (Nat.le_refl _) (.cells #[.int .i64 l[j].kind, .string ⟨l[j].name.toArray⟩, .int .i64 l[j].n] 116)))
      obtain ⟨s1, hs1⟩ : ∃ s1, (sortF a l[j]).1 = s1 := ⟨_, rfl⟩
      obtain ⟨c1, hc1⟩ : ∃ c1, (sortF a l[j]).2 = c1 := ⟨_, rfl⟩
      have HI := Lib.hid (HS.out l[j])
      rw [hs1, hc1] at HS1 HI
      have HF := Lib.hid (And.intro hs1 hc1)
      have HBA := Lib.hid hba
      rw [hxa]
      clear q0 q1 q2 hba hs1 hc1
      generalize hte : l[j] = te at HS1 HBA HO1 e0 e1 e2
      obtain ⟨tk, tn, tv⟩ := te
      simp only at HS1 HBA HO1 e0 e1 e2
      clear hte
      have hc : (c1 = 0 ∧ (c1 == 0) = true) ∨ (¬ c1 = 0 ∧ (c1 == 0) = false) := by by_cases h : c1 = 0 <;> simp [h]
      go_wp2_with fail
      refine HS1.out.mono ?_
      rintro e w1 ⟨rfl, hb1⟩
      have HB1 := Lib.hid (HBA.out.trans (hb1.mono HBA.out.size))
      have HO2 := Lib.hid (HO1.out.below hb1)
      clear hb1
      rcases hc with ⟨hc1, hc2⟩ | ⟨hc1, hc2⟩
      · subst hc1
        clear hc2
        obtain ⟨xw, hxw⟩ : ∃ xw, ws[j]?.getD 0 = xw := ⟨_, rfl⟩
        have hwc := (HB1.out.cell (p := ⟨wb, wo + j, none⟩) HW.out.1).trans (HW.out.2 j (by have := HWL.out; omega))
        rw [show ws[j]'(by have := HWL.out; omega) = xw from by rw [← hxw, List.getElem?_eq_getElem (by have := HWL.out; omega)]; rfl] at hwc
        have hlw : (j : Int) < (ws.length : Int) := by have := HWL.out; omega
        have HXW := Lib.hid hxw
        clear hxw
        have hd : (xw ≠ s1 ∧ (xw != s1) = true) ∨ (xw = s1 ∧ (xw != s1) = false) := by by_cases h : xw = s1 <;> simp [h]
        rcases hd with ⟨d1, d2⟩ | ⟨d1, d2⟩
        · have HD := Lib.hid d1
          clear d1
          go_wp2_with fail
          go_ret2
          refine ⟨.slice none 0 0, by rw [HE.out.2.2, sortsGo_want hlt HF.out.2 HF.out.1 HXW.out HD.out]; rfl, ?_, HB1.out⟩
          rw [HE.out.2.2, sortsGo_want hlt HF.out.2 HF.out.1 HXW.out HD.out]
          exact Onto1.nil _ _ _ _ _ (fun _ h => h.elim)
        · obtain rfl : s1 = xw := d1.symm
          clear d2
          go_wp2_with (at_builtin; go_must (refine wpList_append_one rfl _ _ 69 rfl 3 i0 _ 1 8 Tryz.underlying69 hi hz0 hz1 hz2 rfl (by decide) (.slice oa n ocap) (dints out) (.int .i64 s1) [.int .i64 s1] 3 rfl rfl HO2.out (DsAt.flat1 (x := .int .i64 s1) rfl HI.out.1.wf) (by have := HB1.out.size; omega) rfl (by rw [dints_widths]; simp) (by have := HE.out.1; rw [dints_length]; unfold maxLen; omega) (by have := HE.out.1; rw [dints_length]; omega) ?_); intro ao cap w5 hon hb5; have HON := Lib.hid (And.intro hon (HB1.out.trans hb5)); clear hon hb5; rw [← HN.out])
          refine ⟨⟨j + 1, out ++ [s1], by omega, by go_num, rfl, HON.out.2, Lib.hid ?_, Lib.hid ⟨by have := HE.out.1; simp; omega, fun z hz => ?_, by rw [HE.out.2.2, sortsGo_next hlt HF.out.2 HF.out.1 (by unfold badWant; simp only [HXW.out]; simp)]⟩⟩, by simp [intOf]; omega⟩
          · rw [dints_append, HN.out]; exact HON.out.1
          · rcases List.mem_append.1 hz with hz | hz
            · exact HE.out.2.1 z hz
            · simp at hz; subst hz; exact HI.out.1
      · have HCN := Lib.hid hc1
        clear hc1
        go_wp2_with fail
        go_ret2
        refine ⟨.slice none 0 0, by rw [HE.out.2.2, sortsGo_err hlt HF.out.2 HCN.out]; rfl, ?_, HB1.out⟩
        rw [HE.out.2.2, sortsGo_err hlt HF.out.2 HCN.out]
        exact Onto1.nil _ _ _ _ _ (fun _ h => h.elim)
    · go_wp2_with fail
      go_ret2
      have he : sortsF a (some ws) l = (out, 0) := by rw [HE.out.2.2, List.drop_eq_nil_of_le (by omega), sortsGo]
      rw [he]
      exact ⟨_, rfl, HO.out, hb⟩
end Go.Proofs.YtlfjjokcbeaekaaGreatDoor

/- types: walk at comparisons and atoms. -/
namespace Go.Chalk
open Go.RowKit
theorem sorts_two (a : List Bnd) (t u : Trm) : sortsF a none [t, u] = if (sortF a t).2 ≠ 0 then ([], (sortF a t).2) else if (sortF a u).2 ≠ 0 then ([], (sortF a u).2) else ([(sortF a t).1, (sortF a u).1], 0) := by
  unfold sortsF
  rw [sortsGo]
  split
  · rfl
  · rw [if_neg (by simp [badWant]), sortsGo]
    split
    · rfl
    · rw [if_neg (by simp [badWant]), sortsGo]; rfl
theorem sorts_asks (a : List Bnd) (kind : Int) (t u : Trm) : (sortsF a (some [(asksF kind).1, (asksF kind).2]) [t, u]).2 = atomWalk a kind t u := by
  unfold sortsF atomWalk
  rw [sortsGo]
  by_cases h1 : (sortF a t).2 ≠ 0
  · rw [if_pos h1, if_pos h1]
  · rw [if_neg h1, if_neg h1]
    by_cases h2 : (sortF a t).1 ≠ (asksF kind).1
    · rw [if_pos (by unfold badWant; simp; exact fun h => h2 h.symm), if_pos h2]
    · rw [if_neg (by unfold badWant; simp at h2 ⊢; exact h2.symm), if_neg h2, sortsGo]
      by_cases h3 : (sortF a u).2 ≠ 0
      · rw [if_pos h3, if_pos h3]
      · rw [if_neg h3, if_neg h3]
        by_cases h4 : (sortF a u).1 ≠ (asksF kind).2
        · rw [if_pos (by unfold badWant; simp; exact fun h => h4 h.symm), if_pos h4]
        · rw [if_neg (by unfold badWant; simp at h4 ⊢; exact h4.symm), if_neg h4, sortsGo]
/-- What a well-formed comparison or atom is. -/
theorem formed_atom2 {kind : Int} {name : Bs} {n : Int} {terms : List Trm} {binds : List Bnd} {l : List Frm} (h : formedF (.mk kind name n terms binds l) = true) (hk : atomK kind = true) : ∃ t u, terms = [t, u] ∧ (∀ x ∈ terms, 1 ≤ x.kind ∧ x.kind ≤ 7) := by
  rw [formedF_mk, Bool.and_eq_true] at h
  have h2 := h.2
  split at h2
  · cases h2
  · rw [Bool.and_eq_true, decide_eq_true_eq] at h2
    match terms, h2.1 with
    | [t, u], _ =>
      refine ⟨t, u, rfl, fun x hx => ?_⟩
      have := List.all_eq_true.1 h2.2 x hx
      rw [Bool.and_eq_true] at this
      have h3 := this.1
      unfold termedF at h3
      split at h3
      · rename_i he; omega
      · simp only [Bool.and_eq_true, decide_eq_true_eq] at h3; omega
theorem formed_plain {kind : Int} {name : Bs} {n : Int} {terms : List Trm} {binds : List Bnd} {l : List Frm} (h : formedF (.mk kind name n terms binds l) = true) (hk : atomK kind = false) : terms = [] ∧ binds.length ≤ 6 := by
  rw [formedF_mk, Bool.and_eq_true, partsOk_mk] at h
  have h1 := h.1
  simp only [hk, Bool.or_false, Bool.and_eq_true, List.isEmpty_iff] at h1
  refine ⟨h1.1.1.1.2, ?_⟩
  have h2 := h.2
  split at h2
  · cases h2
  · rw [if_neg (by rw [hk]; simp)] at h2
    cases hq : quantK kind
    · rw [hq] at h1
      have := h1.1.1.2
      simp at this
      subst this; simp
    · rw [if_pos hq] at h2
      simp only [Bool.and_eq_true, decide_eq_true_eq] at h2
      exact h2.1.1.2
end Go.Chalk
namespace Go.Proofs.YtlfjjokcbeaekaaGreatDoor
open Go.RowKit Go.Chalk
theorem clip_any (a : Option Addr) (n cap : Nat) (hn : n ≤ cap) (hc : cap ≤ maxLen) (w : World) : Calls Tryz.prog 105 #[.slice a n cap] w fun e w' => e = .returned (.slice a n n) ∧ w = w' := by
  go_enter Tryz.func105, Tryz.ntmps105
  go_wp2_with fail
  go_ret
  exact ⟨rfl, rfl⟩

set_option maxRecDepth 100000 in
set_option maxHeartbeats 1000000 in
theorem walk_atom (a : List Bnd) (x : SlA) (kind : Int) (name : Bs) (n : Int) (terms : List Trm) (binds : List Bnd) (fl : List Frm) (y : FrmA) (w : World) (hx : SlIn w (· < w.heap.size) (a.map Bnd.toD) x) (hy : SlIn w (· < w.heap.size) (terms.map Trm.toD) y.t) (hl : a.length ≤ 2000000)
    (hf : formedF (.mk kind name n terms binds fl) = true) (hk : 3 ≤ kind ∧ kind ≤ 8) (hg : GG w) :
    Calls Tryz.prog 49 #[.slice x.a a.length x.cap, ndV (.mk kind name n terms binds fl, y)] w fun e w' => e = .returned (.int .i64 (walkF a (.mk kind name n terms binds fl))) ∧ Below w.heap.size w w' := by
  have hak : atomK kind = true := by unfold atomK; simp; omega
  obtain ⟨t, u, ht, htk⟩ := formed_atom2 hf hak
  have hba : Below w.heap.size w (w.alloc (.cells (y.cells (.mk kind name n terms binds fl)).toArray 37)) := (Below.refl _ _).alloc (Nat.le_refl _) _
  obtain ⟨k, hkk⟩ : ∃ k : Nat, (k : Int) = kind := ⟨kind.toNat, by omega⟩
  have hwf : walkF a (.mk kind name n terms binds fl) = atomWalk a kind t u := by rw [ht, walkF_two, if_neg (by omega)]
  subst ht
  have hss := fun (W : World) (hW : Below w.heap.size w W) => (by
    have hak2 := (hg.below hW).asks k (by omega)
    rw [hkk] at hak2
    have := sorts_want a x [t, u] y.t [(asksF kind).1, (asksF kind).2] 2 (k * 2) 2 W (hx.later hW hW.size) (hy.later hW hW.size) hl (by simp) htk rfl (World.block_lt_of_cell? _ _ hak2.1) (fun i hi => by
      match i, hi with
      | 0, _ => exact hak2.1
      | 1, _ => exact hak2.2) (hg.below hW)
    rw [sorts_asks] at this
    exact this : Calls Tryz.prog 103 #[.slice y.t.a 2 y.t.cap, .func (.func 104) #[.slice x.a a.length x.cap] #[], .slice (some ⟨2, k * 2, none⟩) 2 2] W fun e w' => ∃ v, e = .returned (.tuple #[v, .int .i64 (atomWalk a kind t u)]) ∧ Onto1 w' W.heap.size (fun _ => False) 3 1 v (dints (sortsF a (some [(asksF kind).1, (asksF kind).2]) [t, u]).1) ∧ Below W.heap.size W w')
  rw [hwf]
  have HSS := Lib.hid hss
  have HB := Lib.hid hba
  have hmf : ∀ (fn : Fn) (first cap : Array Value) (w : World), (Instr.makeFunc fn first cap).run Tryz.prog w = .ok (.func fn first cap) w := fun _ _ _ _ => rfl
  clear hss hwf hx hy hg hba hak hf htk
  generalize atomWalk a kind t u = res at HSS ⊢
  have h9 : (kind == 9) = false := by simp; omega
  have hk9 : (kind : Int) < 9 := by omega
  subst hkk
  simp only [ndV, FrmA.cells, SlA.val, Frm.kind, Frm.name, Frm.n, Frm.terms, Frm.binds, Frm.l, List.length_cons, List.length_nil, Nat.zero_add, Nat.reduceAdd] at *
  go_enter Tryz.func49, Tryz.ntmps49
  go_wp2_with fail
  have HSS1 := Lib.hid (HSS.out _ HB.out.drew)
  go_region_with (go_at_call 103; refine HSS1.out.mono ?_; rintro e w' ⟨v, rfl, hon, hb⟩; have HW := Lib.hid hb; clear hb hon)
  all_goals
    go_wp2_with fail
    go_ret
    exact ⟨rfl, HB.out.drew.trans (HW.out.mono (by simp))⟩
end Go.Proofs.YtlfjjokcbeaekaaGreatDoor

/- types: walk at comparisons. -/
namespace Go.Chalk
open Go.RowKit
/-- Which sorts have an order. -/
def ordB (s : Int) (name : Bs) : Bool := ([8, 2, 6] : List Int).contains s || name == [61] || name == [33, 61]
theorem cmpWalk_ok {a : List Bnd} {name : Bs} {t u : Trm} (h1 : (sortF a t).2 = 0) (h2 : (sortF a u).2 = 0) {s1 s2 : Int} (e1 : (sortF a t).1 = s1) (e2 : (sortF a u).1 = s2) : cmpWalk a name t u = if (s1 != s2 || !(ordB s1 name)) = true then 80 else 0 := by
  unfold cmpWalk ordB
  rw [if_neg (by rw [h1]; simp), if_neg (by rw [h2]; simp), e1, e2]
  congr 1
  simp
  constructor
  · rintro (h | h)
    · exact .inl h
    · exact .inr ⟨⟨⟨h.1, h.2.1, h.2.2.1⟩, h.2.2.2.1⟩, h.2.2.2.2⟩
  · rintro (h | ⟨⟨⟨a, b, c⟩, d⟩, e⟩)
    · exact .inl h
    · exact .inr ⟨a, b, c, d, e⟩
end Go.Chalk
namespace Go.Proofs.YtlfjjokcbeaekaaGreatDoor
open Go.RowKit Go.Chalk

set_option maxRecDepth 100000 in
set_option maxHeartbeats 1000000 in
theorem walk_cmp (a : List Bnd) (x : SlA) (name : Bs) (n : Int) (terms : List Trm) (binds : List Bnd) (fl : List Frm) (y : FrmA) (w : World) (hx : SlIn w (· < w.heap.size) (a.map Bnd.toD) x) (hy : SlIn w (· < w.heap.size) (terms.map Trm.toD) y.t) (hl : a.length ≤ 2000000)
    (hf : formedF (.mk 9 name n terms binds fl) = true) (hg : GG w) :
    Calls Tryz.prog 49 #[.slice x.a a.length x.cap, ndV (.mk 9 name n terms binds fl, y)] w fun e w' => e = .returned (.int .i64 (walkF a (.mk 9 name n terms binds fl))) ∧ Below w.heap.size w w' := by
  obtain ⟨t, u, ht, htk⟩ := formed_atom2 hf (by decide)
  have hba : Below w.heap.size w (w.alloc (.cells (y.cells (.mk 9 name n terms binds fl)).toArray 37)) := (Below.refl _ _).alloc (Nat.le_refl _) _
  have hwf : walkF a (.mk 9 name n terms binds fl) = cmpWalk a name t u := by rw [ht, walkF_two, if_pos rfl]
  subst ht
  have hss := sorts_nil a x [t, u] y.t _ (hx.later hba hba.size) (hy.later hba hba.size) hl (by simp) htk (hg.below hba)
  rw [sorts_two] at hss
  obtain ⟨s1, hs1⟩ : ∃ s1, (sortF a t).1 = s1 := ⟨_, rfl⟩
  obtain ⟨s2, hs2⟩ : ∃ s2, (sortF a u).1 = s2 := ⟨_, rfl⟩
  obtain ⟨c1, hc1⟩ : ∃ c1, (sortF a t).2 = c1 := ⟨_, rfl⟩
  obtain ⟨c2, hc2⟩ : ∃ c2, (sortF a u).2 = c2 := ⟨_, rfl⟩
  rw [hs1, hs2, hc1, hc2] at hss
  have HB := Lib.hid hba
  have hmf : ∀ (fn : Fn) (first cap : Array Value) (w : World), (Instr.makeFunc fn first cap).run Tryz.prog w = .ok (.func fn first cap) w := fun _ _ _ _ => rfl
  rw [hwf]
  have HG := Lib.hid hg
  clear hwf hx hy hg hf htk
  simp only [ndV, FrmA.cells, SlA.val, Frm.kind, Frm.name, Frm.n, Frm.terms, Frm.binds, Frm.l, List.length_cons, List.length_nil, Nat.zero_add, Nat.reduceAdd] at hss hba HB ⊢
  by_cases h1 : c1 ≠ 0
  · rw [if_pos h1] at hss
    have he : cmpWalk a name t u = c1 := by unfold cmpWalk; rw [hc1, if_pos h1]
    rw [he]
    have HSS := Lib.hid hss
    have h1' : (c1 != 0) = true := by simpa using h1
    have HD := Lib.hid h1
    clear hss hba he hs1 hs2 hc1 hc2 h1
    go_enter Tryz.func49, Tryz.ntmps49
    go_wp2_with fail
    refine HSS.out.mono ?_
    rintro e w1 ⟨v, rfl, hon, hb⟩
    have HW := Lib.hid hb
    clear hb hon
    go_wp2_with fail
    go_ret
    exact ⟨rfl, HB.out.trans (HW.out.mono HB.out.size)⟩
  · rw [if_neg h1] at hss
    have h1z : c1 = 0 := by omega
    by_cases h2 : c2 ≠ 0
    · rw [if_pos h2] at hss
      have he : cmpWalk a name t u = c2 := by unfold cmpWalk; rw [hc1, if_neg h1, hc2, if_pos h2]
      rw [he]
      have HSS := Lib.hid hss
      have h2' : (c2 != 0) = true := by simpa using h2
      clear hss hba he hs1 hs2 hc1 hc2 h1 h1z h2
      go_enter Tryz.func49, Tryz.ntmps49
      go_wp2_with fail
      refine HSS.out.mono ?_
      rintro e w1 ⟨v, rfl, hon, hb⟩
      have HW := Lib.hid hb
      clear hb hon
      go_wp2_with fail
      go_ret
      exact ⟨rfl, HB.out.trans (HW.out.mono HB.out.size)⟩
    · rw [if_neg h2] at hss
      have he := cmpWalk_ok (name := name) (hc1.trans h1z) (hc2.trans (by omega)) hs1 hs2
      rw [he]
      have HSS := Lib.hid hss
      obtain ⟨od, hod⟩ : ∃ od, od = ordB s1 name := ⟨_, rfl⟩
      rw [← hod]
      have HO := Lib.hid hod
      obtain ⟨rv, hrv⟩ : ∃ rv, rv = (if (s1 != s2 || !od) = true then (80 : Int) else 0) := ⟨_, rfl⟩
      rw [← hrv]
      have HRV := Lib.hid hrv
      clear hrv
      clear hss hba he hs1 hs2 hc1 hc2 h1 h1z h2 hod
      go_enter Tryz.func49, Tryz.ntmps49
      go_wp2_with fail
      refine HSS.out.mono ?_
      rintro e w1 ⟨v, rfl, hon, hb⟩
      have HW := Lib.hid (HB.out.trans (hb.mono HB.out.size))
      obtain ⟨x0, rfl, hx0⟩ := hon.sl (by rw [dints_widths]; simp)
      obtain ⟨k1, _, _, _, k5⟩ := hx0.ints
      obtain ⟨ka, _⟩ := k1 (by simp)
      have q0 := k5 0 (by simp)
      have q1 := k5 1 (by simp)
      simp only [List.getElem_cons_zero, List.getElem_cons_succ, Nat.add_zero] at q0 q1
      simp only [dints_length, List.length_cons, List.length_nil, Nat.zero_add, Nat.reduceAdd, SlA.val]
      rw [ka]
      have hbx : w1.heap[w.heap.size]? = some (.cells #[.int .i64 9, .string ⟨name.toArray⟩, .int .i64 n, .slice y.t.a 2 y.t.cap, .slice y.b.a binds.length y.b.cap, .slice y.l.a fl.length y.l.cap] 37 (0, 0)) := boxed (B := w.heap.size + 1) (by simpa using hb) (by omega)
      have b1 : w1.cell? ⟨w.heap.size, 1, none⟩ = some (.string ⟨name.toArray⟩) := cell_of_heap hbx rfl
      clear hb hon hx0 k1 k5 ka hbx
      have hc := contains_ints [8, 2, 6] ⟨some ⟨w1.heap.size, 0, none⟩, w1.heap.size, 0, 3⟩ s1 (w1.alloc (.cells #[.int .i64 8, .int .i64 2, .int .i64 6] 3))
        (SlIn.lit (cs := [.int .i64 8, .int .i64 2, .int .i64 6]) (boxed (B := w1.heap.size + 1) (Below.refl _ _) (by omega)) (DsAt.ints (xs := [8, 2, 6]) (fun z hz => by simp at hz; omega)) (by simp) (Nat.le_refl _) (by decide)) (by simp)
      have hoo := HO.out
      unfold ordB at hoo
      clear HO
      generalize ([8, 2, 6] : List Int).contains s1 = c0 at hc hoo
      have HC := Lib.hid hc
      have HBB := Lib.hid (HW.out.alloc HW.out.size (.cells #[.int .i64 8, .int .i64 2, .int .i64 6] 3))
      have b1' := cell_alloc (x := .cells #[.int .i64 8, .int .i64 2, .int .i64 6] 3) b1
      have hcase : (c0 = true ∧ od = true) ∨ (c0 = false ∧ name = [61] ∧ od = true) ∨ (c0 = false ∧ name = [33, 61] ∧ od = true) ∨ (c0 = false ∧ (name == [61]) = false ∧ (name == [33, 61]) = false ∧ od = false) := by
        cases c0
        · by_cases h1 : name = [61]
          · exact .inr (.inl ⟨rfl, h1, by rw [hoo, h1]; rfl⟩)
          · by_cases h2 : name = [33, 61]
            · exact .inr (.inr (.inl ⟨rfl, h2, by rw [hoo, h2]; rfl⟩))
            · have e1 : (name == [61]) = false := by simpa using h1
              have e2 : (name == [33, 61]) = false := by simpa using h2
              exact .inr (.inr (.inr ⟨rfl, e1, e2, by rw [hoo, e1, e2]; rfl⟩))
        · exact .inl ⟨rfl, by rw [hoo]; rfl⟩
      have hd : (s1 != s2) = true ∨ (s1 != s2) = false := by cases (s1 != s2) <;> simp
      clear hc hoo
      rcases hcase with ⟨rfl, rfl⟩ | ⟨rfl, rfl, rfl⟩ | ⟨rfl, rfl, rfl⟩ | ⟨rfl, hn1, hn2, rfl⟩
      all_goals
        rcases hd with hd | hd
        all_goals
          have HDD := Lib.hid hd
          try (obtain rfl := int_eq hd; clear hd)
          go_wp2_with fail
          refine HC.out.mono ?_
          rintro e w2 ⟨rfl, rfl⟩
          go_wp2_with fail
          go_quiet (fail)
          go_wp2_with fail
          go_ret
          exact ⟨ret_int (by rw [HRV.out, HDD.out]; rfl), HBB.out.trans ⟨rfl, rfl, rfl, Nat.le_refl _, fun _ _ => rfl⟩⟩
end Go.Proofs.YtlfjjokcbeaekaaGreatDoor

/- types: walk. -/
namespace Go.Chalk
open Go.RowKit
theorem bindAll_some {bs : List Bnd} {b : Bnd} {r l : List Bnd} (hl : l = b :: r) {i : Nat} (h : findB bs b.name = some i) : bindAll bs l = none := by
  subst hl; rw [bindAll, if_pos (by rw [h]; rfl)]
theorem bindAll_none {bs : List Bnd} {b : Bnd} {r l : List Bnd} (hl : l = b :: r) (h : findB bs b.name = none) : bindAll bs l = bindAll (bs ++ [b]) r := by
  subst hl; rw [bindAll, if_neg (by rw [h]; simp)]
theorem walkL_bad {bs : List Bnd} {f : Frm} {r l : List Frm} (hl : l = f :: r) {c : Int} (h : walkF bs f = c) (hc : c ≠ 0) : walkL bs l = c := by
  subst hl; rw [walkL, h, if_pos hc]
theorem walkL_good {bs : List Bnd} {f : Frm} {r l : List Frm} (hl : l = f :: r) (h : walkF bs f = 0) : walkL bs l = walkL bs r := by
  subst hl; rw [walkL, h, if_neg (by simp)]
theorem nodes_child {kind : Int} {name : Bs} {n : Int} {terms : List Trm} {binds : List Bnd} {fl : List Frm} (h : (nodesF (.mk kind name n terms binds fl)).all formedF = true) (j : Nat) (hj : j < fl.length) : (nodesF fl[j]).all formedF = true := by
  rw [nodesF, List.all_cons, Bool.and_eq_true] at h
  have : ∀ (l : List Frm), (nodesL l).all formedF = true → ∀ g ∈ l, (nodesF g).all formedF = true := by
    intro l
    induction l with
    | nil => intro _ g hg; cases hg
    | cons x r ih =>
      intro hl g hg
      rw [nodesL, List.all_append, Bool.and_eq_true] at hl
      rcases List.mem_cons.1 hg with rfl | hg
      · exact hl.1
      · exact ih hl.2 g hg
  exact this fl h.2 _ (List.getElem_mem hj)
end Go.Chalk
namespace Go.Proofs.YtlfjjokcbeaekaaGreatDoor
open Go.RowKit Go.Chalk

set_option maxRecDepth 100000 in
set_option maxHeartbeats 2000000 in
theorem walk_plain (kind : Int) (name : Bs) (n : Int) (binds : List Bnd) (fl : List Frm)
    (ih : ∀ (j : Nat) (hj : j < fl.length) (a : List Bnd) (x : SlA) (y : FrmA) (w : World), SlIn w (· < w.heap.size) (a.map Bnd.toD) x → FrmIn w (· < w.heap.size) fl[j] y → a.length + 6 * fl[j].depth ≤ 1900000 → GG w →
      Calls Tryz.prog 49 #[.slice x.a a.length x.cap, ndV (fl[j], y)] w fun e w' => e = .returned (.int .i64 (walkF a fl[j])) ∧ Below w.heap.size w w')
    (a : List Bnd) (x : SlA) (y : FrmA) (w : World) (hx : SlIn w (· < w.heap.size) (a.map Bnd.toD) x) (hy : FrmIn w (· < w.heap.size) (.mk kind name n [] binds fl) y) (hl : a.length + 6 * (fdepths fl + 1) ≤ 1900000) (hb6 : binds.length ≤ 6) (hfl : fl.length ≤ 2000000) (h9 : (kind == 9) = false) (hg : GG w) :
    Calls Tryz.prog 49 #[.slice x.a a.length x.cap, ndV (.mk kind name n [] binds fl, y)] w fun e w' => e = .returned (.int .i64 (walkF a (.mk kind name n [] binds fl))) ∧ Below w.heap.size w w' := by
  have hba : Below w.heap.size w (w.alloc (.cells (y.cells (.mk kind name n [] binds fl)).toArray 37)) := (Below.refl _ _).alloc (Nat.le_refl _) _
  have hcap : a.length ≤ x.cap := by have := hx.le; simpa using this
  have hcm := hx.max
  obtain ⟨g1, _, _, g4, g5⟩ := hy.binds.flat Bnd.flatT
  have hnil : x.a = none → a.map Bnd.toD = [] := fun hn => by
    cases ha : a with
    | nil => rfl
    | cons b r => have := (hx.at_ (by rw [ha]; simp)).1; rw [this] at hn; cases hn
  have hsl : SlIn w (· < w.heap.size) (a.map Bnd.toD) ⟨x.a, x.b, x.o, a.length⟩ := ⟨hx.at_, by simp, by show a.length ≤ maxLen; omega, hx.row⟩
  have hon : Onto1 (w.alloc (.cells (y.cells (.mk kind name n [] binds fl)).toArray 37)) (w.heap.size + 1) (fun _ => False) 47 2 (.slice x.a a.length a.length) (a.map Bnd.toD) :=
    .inl ⟨⟨x.a, x.b, x.o, a.length⟩, by simp, by simp, (hsl.agree (agree_of_below hba)).mono (fun k hk => Nat.lt_succ_of_lt hk), hnil, flats_map Bnd.flatT a, by simp, fun _ h => h.elim⟩
  have HC := Lib.hid g4
  have HFN := Lib.hid g5
  have HFI : Hid (∀ (j : Nat) (hj : j < fl.length), ∃ y1 : FrmA, FrmIn w (· < w.heap.size) fl[j] y1 ∧ CellsAt w y.l.b (y.l.o + j * 6) (y1.cells fl[j])) := Lib.hid (fun (j : Nat) (hj : j < fl.length) => hy.l.frm j hj)
  have HFS := Lib.hid hy.l.at_
  have HIH := Lib.hid ih
  have HG := Lib.hid hg
  have HW := Lib.hid (walkF_nil a kind name n binds fl)
  have HB := Lib.hid hba
  have HON := Lib.hid hon
  have HG1 := Lib.hid g1
  obtain ⟨i0, hi, hz0, hz1, hz2⟩ := info_parts infoBnd
  clear hx hy g1 g4 g5 ih hg hba hon hnil hsl
  simp only [ndV, FrmA.cells, SlA.val, Frm.kind, Frm.name, Frm.n, Frm.terms, Frm.binds, Frm.l, List.length_nil] at HC HFN HG1 HFS HB HON ⊢
  generalize walkF a (.mk kind name n [] binds fl) = res at HW ⊢
  go_enter Tryz.func49, Tryz.ntmps49
  go_wp2_with (go_at_call 105; refine (clip_any _ _ _ hcap hcm _).mono ?_; rintro e w' ⟨rfl, rfl⟩)
  go_loopw [10, 80] (fun v i wr => ∃ (j : Nat) (bs : List Bnd), j ≤ binds.length ∧ i = .int .i64 j ∧ Below w.heap.size w wr ∧ Hid (wr.heap[w.heap.size]? = some (.cells #[.int .i64 kind, .string ⟨name.toArray⟩, .int .i64 n, .slice y.t.a 0 y.t.cap, .slice y.b.a binds.length y.b.cap, .slice y.l.a fl.length y.l.cap] 37 (0, 0))) ∧ Hid (Onto1 wr (w.heap.size + 1) (fun _ => False) 47 2 v (bs.map Bnd.toD)) ∧ Hid (bs.length = a.length + j ∧ bindAll a binds = bindAll bs (binds.drop j))) (fun _ i _ => binds.length - (intOf i).toNat)
  case atStart => exact ⟨0, a, Nat.zero_le _, rfl, HB.out, Lib.hid (boxed (B := w.heap.size + 1) (Below.refl _ _) (by omega)), HON, Lib.hid ⟨rfl, rfl⟩⟩
  case round =>
    obtain ⟨j, bs, hj, rfl, hb, HBX, HO, HE⟩ := hrel
    clear HON
    obtain ⟨x1, hv, hx1⟩ := HO.out.sl (by rw [widths_map Bnd.flatT, List.length_map])
    rw [List.length_map] at hv
    subst hv
    have hbl : bs.length ≤ 1900000 := by have := HE.out.1; omega
    have HX1 := Lib.hid hx1
    clear hx1
    by_cases hlt : j < binds.length
    · obtain ⟨hxa, hbl2⟩ := HG1.out (by omega)
      obtain ⟨q0, q1⟩ := HC.out.two j hlt rfl
      have e0 := (hb.cell (p := ⟨y.b.b, y.b.o + j * 2, none⟩) hbl2).trans q0
      have e1 := (hb.cell (p := ⟨y.b.b, y.b.o + j * 2 + 1, none⟩) hbl2).trans q1
      have hba : Below w.heap.size w (wr.alloc (.cells #[.string ⟨binds[j].name.toArray⟩, .int .i64 binds[j].sort] 47)) := hb.alloc hb.size _
      have hbr : Below wr.heap.size wr (wr.alloc (.cells #[.string ⟨binds[j].name.toArray⟩, .int .i64 binds[j].sort] 47)) := (Below.refl _ _).alloc (Nat.le_refl _) _
      have HFD := Lib.hid (find_any bs x1 binds[j].name _ (HX1.out.later hbr hbr.size) (by omega))
      have HO1 := Lib.hid (HO.out.below hbr)
      have HFINE := Lib.hid (HFN.out _ (List.getElem_mem hlt))
      have hdrop : binds.drop j = binds[j] :: binds.drop (j + 1) := List.drop_eq_getElem_cons hlt
      have HDR := Lib.hid hdrop
      have HBA := Lib.hid hba
      rw [hxa] at HBX ⊢
      clear q0 q1 hba hbr hdrop
      generalize hbe : binds[j] = be at HFD HO1 HFINE HDR HBA e0 e1
      clear hbe
      obtain ⟨nm, so⟩ := be
      simp only at HFD HO1 HBA e0 e1
      cases hf : findB bs nm with
      | some i =>
        have hfi : findI bs nm = i := by unfold findI; rw [hf]
        rw [hfi] at HFD
        have HR : Hid (res = 82) := Lib.hid (by rw [HW.out, HE.out.2, bindAll_some HDR.out hf])
        clear hf hfi
        go_wp2_with fail
        refine HFD.out.mono ?_
        rintro e w1 ⟨rfl, hb1⟩
        have HB1 := Lib.hid (HBA.out.trans (hb1.mono HBA.out.size))
        clear hb1
        go_wp2_with fail
        go_ret
        exact ⟨ret_int HR.out.symm, HB1.out⟩
      | none =>
        have hfi : findI bs nm = -1 := by unfold findI; rw [hf]
        rw [hfi] at HFD
        have HR := Lib.hid (HE.out.2.trans (bindAll_none HDR.out hf))
        clear hf hfi
        go_wp2_with fail
        refine HFD.out.mono ?_
        rintro e w1 ⟨rfl, hb1⟩
        have HB1 := Lib.hid (HBA.out.trans (hb1.mono HBA.out.size))
        have q0 : w1.cell? ⟨wr.heap.size, 0, none⟩ = some (.string ⟨nm.toArray⟩) := cell_of_heap (boxed (B := wr.heap.size + 1) (by simpa using hb1) (by omega)) rfl
        have q1 : w1.cell? ⟨wr.heap.size, 1, none⟩ = some (.int .i64 so) := cell_of_heap (boxed (B := wr.heap.size + 1) (by simpa using hb1) (by omega)) rfl
        have HO2 := Lib.hid (HO1.out.below hb1)
        have hlw := (Array.getElem?_eq_some_iff.1 HBX.out).1
        have HBX1 := Lib.hid ((hb1.block w.heap.size (by simp; omega)).trans ((Below.heap_alloc _ _ _ hlw).trans HBX.out))
        clear hb1
        go_wp2_with (at_builtin; go_must (refine wpList_append_one rfl _ _ 111 rfl 47 i0 _ 2 24 Tryz.underlying111 hi hz0 hz1 hz2 rfl (by decide) (.slice x1.a bs.length x1.cap) (bs.map Bnd.toD) (Bnd.toD ⟨nm, so⟩) [.string ⟨nm.toArray⟩, .int .i64 so] 47 rfl rfl HO2.out (DsAt.flat1 (Bnd.flatT.flat _) HFINE.out) (by have := (Array.getElem?_eq_some_iff.1 HBX1.out).1; omega) rfl (by rw [widths_map Bnd.flatT, List.length_map]) (by rw [List.length_map]; unfold maxLen; omega) (by rw [List.length_map]; omega) ?_); intro ao cap w5 hon hb5; have HON := Lib.hid (And.intro hon (And.intro (HB1.out.trans (hb5.mono (by omega))) ((hb5.block _ (by omega)).trans HBX1.out))); clear hon hb5)
        refine ⟨⟨j + 1, bs ++ [⟨nm, so⟩], by omega, by go_num, HON.out.2.1, Lib.hid HON.out.2.2, Lib.hid ?_, Lib.hid ⟨by have := HE.out.1; simp; omega, HR.out⟩⟩, by simp [intOf]; omega⟩
        have := HON.out.1
        rw [List.length_map] at this
        simpa using this
    · have hjb : j = binds.length := by omega
      obtain ⟨wo, rfl⟩ : ∃ wo, wo = wr := ⟨_, rfl⟩
      have HR : Hid (res = walkL bs fl) := Lib.hid (by rw [HW.out, HE.out.2, hjb, List.drop_length, bindAll])
      have hdep : bs.length + 6 * fdepths fl ≤ 1900000 := by have := HE.out.1; omega
      have HBR := Lib.hid hb
      have HXW := Lib.hid (fun (W : World) (hW : Below wo.heap.size wo W) => HX1.out.later hW hW.size)
      have b5 : wo.cell? ⟨w.heap.size, 5, none⟩ = some (.slice y.l.a fl.length y.l.cap) := cell_of_heap HBX.out rfl
      clear HC HFN HG1 HO HE HB HBX hjb
      go_wp2_with fail
      go_loopw [97] (fun i wr => ∃ j2 : Nat, j2 ≤ fl.length ∧ i = .int .i64 j2 ∧ Below wo.heap.size wo wr ∧ Hid (walkL bs fl = walkL bs (fl.drop j2))) (fun i _ => fl.length - (intOf i).toNat)
      case atStart => exact ⟨0, Nat.zero_le _, rfl, Below.refl _ _, Lib.hid rfl⟩
      case round =>
        obtain ⟨j2, hj2, rfl, hb2, HE2⟩ := hrel
        by_cases hlt2 : j2 < fl.length
        · obtain ⟨y1, hy1, hy2⟩ := HFI.out j2 hlt2
          obtain ⟨hxa, hFb⟩ := HFS.out (by rw [List.length_map]; omega)
          have hbw : Below w.heap.size w wr := HBR.out.trans (hb2.mono HBR.out.size)
          obtain ⟨e0, e1, e2, e3, e4, e5⟩ := (hy2.agree (agree_of_below hbw) hFb).six
          have hbr : Below wo.heap.size wo (wr.alloc (.cells (y1.cells fl[j2]).toArray 37)) := hb2.alloc hb2.size _
          have hbw2 : Below w.heap.size w (wr.alloc (.cells (y1.cells fl[j2]).toArray 37)) := hbw.alloc hbw.size _
          have hdp := depth_le_fdepths fl j2 hlt2
          have HCL := Lib.hid (HIH.out j2 hlt2 bs x1 y1 (wr.alloc (.cells (y1.cells fl[j2]).toArray 37)) (HXW.out _ hbr) (hy1.later hbw2 hbw2.size) (by omega) (HG.out.below hbw2))
          have HBR2 := Lib.hid hbr
          have hdrop : fl.drop j2 = fl[j2] :: fl.drop (j2 + 1) := List.drop_eq_getElem_cons hlt2
          have HDR := Lib.hid hdrop
          obtain ⟨c, hc⟩ : ∃ c, walkF bs fl[j2] = c := ⟨_, rfl⟩
          rw [hc] at HCL
          have HCC := Lib.hid hc
          rw [hxa]
          clear hy1 hy2 hFb hbw hbr hbw2 hdrop hc hdp
          generalize fl[j2] = fe at HCL HBR2 HDR HCC e0 e1 e2 e3 e4 e5
          obtain ⟨kind1, name1, n1, terms1, binds1, fl1⟩ := fe
          simp only [ndV, FrmA.cells, SlA.val, Frm.kind, Frm.name, Frm.n, Frm.terms, Frm.binds, Frm.l] at HCL HBR2 e0 e1 e2 e3 e4 e5
          have hcd : (c ≠ 0 ∧ (c != 0) = true) ∨ (c = 0 ∧ (c != 0) = false) := by by_cases h : c = 0 <;> simp [h]
          rcases hcd with ⟨d1, d2⟩ | ⟨d1, d2⟩
          · have HD := Lib.hid (HR.out.trans (HE2.out.trans (walkL_bad HDR.out HCC.out d1)))
            clear d1
            go_wp2_with fail
            refine HCL.out.mono ?_
            rintro e w1 ⟨rfl, hb1⟩
            have HB1 := Lib.hid (HBR.out.trans ((HBR2.out.trans (hb1.mono HBR2.out.size)).mono HBR.out.size))
            clear hb1
            go_wp2_with fail
            go_ret
            exact ⟨ret_int HD.out.symm, HB1.out⟩
          · subst d1
            clear d2
            have HD := Lib.hid (HE2.out.trans (walkL_good HDR.out HCC.out))
            go_wp2_with fail
            refine HCL.out.mono ?_
            rintro e w1 ⟨rfl, hb1⟩
            have HB1 := Lib.hid (HBR2.out.trans (hb1.mono HBR2.out.size))
            clear hb1
            go_wp2_with fail
            exact ⟨⟨j2 + 1, by omega, by go_num, HB1.out, HD⟩, by simp [intOf]; omega⟩
        · go_wp2_with fail
          go_ret
          have hjl : j2 = fl.length := by omega
          exact ⟨ret_int (by rw [HR.out, HE2.out, hjl, List.drop_length, walkL]), HBR.out.trans (hb2.mono HBR.out.size)⟩

/-- types.walk. -/
theorem awalk_any (m : Nat) : ∀ (f : Frm) (a : List Bnd) (x : SlA) (y : FrmA) (w : World), f.size ≤ m → f.size ≤ 2000000 → (nodesF f).all formedF = true → SlIn w (· < w.heap.size) (a.map Bnd.toD) x → FrmIn w (· < w.heap.size) f y → a.length + 6 * f.depth ≤ 1900000 → GG w →
    Calls Tryz.prog 49 #[.slice x.a a.length x.cap, ndV (f, y)] w fun e w' => e = .returned (.int .i64 (walkF a f)) ∧ Below w.heap.size w w' := by
  induction m with
  | zero => intro f _ _ _ _ h; have := f.size_pos; omega
  | succ m ih =>
    rintro ⟨kind, name, n, terms, binds, fl⟩ a x y w hm hs hf hx hy hd hg
    have hf1 : formedF (.mk kind name n terms binds fl) = true := by
      rw [nodesF, List.all_cons, Bool.and_eq_true] at hf; exact hf.1
    rw [Frm.size] at hm hs
    rw [Frm.depth] at hd
    have hll := length_le_fsizes fl
    cases hk : atomK kind
    · obtain ⟨ht, hb6⟩ := formed_plain hf1 hk
      subst ht
      have h9 : (kind == 9) = false := by
        unfold atomK at hk
        simp; intro h; subst h; simp at hk
      exact walk_plain kind name n binds fl (fun j hj a' x' y' w' h1 h2 h3 h4 => ih fl[j] a' x' y' w' (by have := size_le_fsizes fl j hj; omega) (by have := size_le_fsizes fl j hj; omega) (nodes_child hf j hj) h1 h2 h3 h4) a x y w hx hy hd hb6 (by omega) h9 hg
    · by_cases h9 : kind = 9
      · subst h9
        exact walk_cmp a x name n terms binds fl y w hx hy.terms (by omega) hf1 hg
      · exact walk_atom a x kind name n terms binds fl y w hx hy.terms (by omega) hf1 (by unfold atomK at hk; simp at hk; omega) hg
end Go.Proofs.YtlfjjokcbeaekaaGreatDoor
