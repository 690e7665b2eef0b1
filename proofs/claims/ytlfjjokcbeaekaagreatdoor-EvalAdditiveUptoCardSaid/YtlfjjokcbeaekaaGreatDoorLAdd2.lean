/- Joined texts: AddK, AddP. -/
import Derived.Test.YtlfjjokcbeaekaaGreatDoorB35
import Derived.Test.YtlfjjokcbeaekaaGreatDoorB06
import Derived.Test.YtlfjjokcbeaekaaGreatDoorB40
import Derived.Test.YtlfjjokcbeaekaaGreatDoorB09
import Derived.Test.YtlfjjokcbeaekaaGreatDoorB41

/- The reference's With, Ints and SameInsts. -/
namespace Go.Proofs.YtlfjjokcbeaekaaGreatDoor
open Go.RowKit Go.Chalk
set_option maxRecDepth 100000 in
set_option maxHeartbeats 2000000 in
theorem rwith_any (l : List Bnd) (y : SlA) (t : List Nat) (z : SlA) (w : World) (hy : SlIn w (· < w.heap.size) (l.map Bnd.toD) y) (hz : SlIn w (· < w.heap.size) (dints (nats t)) z) (hle : l.length ≤ 2000000) (htl : t.length = l.length) :
    Calls Tryz.prog 21 #[.slice none 0 0, .slice y.a l.length y.cap, .slice z.a t.length z.cap] w fun e w' => ∃ v, e = .returned v ∧ OwnN w' w.heap.size (fun _ => False) 50 3 v ((withF [] l t).map Ev.toD) ∧ Below w.heap.size w w' := by
  obtain ⟨g1, _, _, g4, g5⟩ := hy.flat Bnd.flatT
  obtain ⟨k1, _, _, k4, k5⟩ := hz.ints
  rw [nats_length] at k1
  have HC := Lib.hid (And.intro g4 g5)
  have HK := Lib.hid (And.intro k4 k5)
  obtain ⟨i0, hi, hz0, hz1, hz2⟩ := info_parts infoEv
  have HTL := Lib.hid htl
  clear hy hz g4 g5 k4 k5 htl
  have hba : Below w.heap.size w (w.alloc (.cells #[] 50)) := (Below.refl _ _).alloc (Nat.le_refl _) _
  have HO := Lib.hid (show Chalk.Own (w.alloc (.cells #[] 50)) (fun _ => False) 50 3 (.slice (some ⟨w.heap.size, 0, none⟩) 0 0) (some w.heap.size) [] from Chalk.Own.lit (w := w) (n := 0) (cs := []) rfl (by unfold maxLen; omega) rfl (by rw [DsAt]) (fun _ h => h.elim))
  have HS := Lib.hid (show DAt (w.alloc (.cells #[] 50)) (fun _ => False) (.sl []) [.slice none 0 0] from (SlIn.nil (Nat.zero_le _) none 0 0).d)
  have HBA := Lib.hid hba
  clear hba
  go_enter Tryz.func21, Tryz.ntmps21
  go_upto_region 2 with (at_builtin; go_must (refine wpList_append_src _ (by rfl) _ _ _ rfl 50 i0 _ 3 32 Tryz.underlying32 hi hz0 hz1 hz2 rfl (by omega) (.slice (some ⟨w.heap.size, 0, none⟩) 0 0) (.slice none 0 0) (fun _ => False) (some w.heap.size) [] [] rfl rfl HO.out HS.out rfl (by decide) (by decide) ?_); intro oa ocap orow w1 hown hmod hat; have HOW := Lib.hid hown; have HM := Lib.hid (And.intro hmod hat); clear hown hmod hat; simp only [List.length_nil, Nat.zero_add])
  have HB1 := Lib.hid (HBA.out.trans (HM.out.1.below HBA.out.size (fun k hk => by simp at hk; omega)))
  have HON : Hid (OwnN w1 w.heap.size (fun _ => False) 50 3 (.slice oa 0 ocap) ((withF [] (l.take 0) (t.take 0)).map Ev.toD)) := Lib.hid ⟨orow, by simpa [withF] using HOW.out, fun k hk => by rcases HM.out.2 with h | h <;> rw [h] at hk <;> simp at hk <;> omega⟩
  clear HO HS HOW HM HBA
  go_wp2_with fail
  go_loopw [7, 8] (fun v i wr => ∃ j : Nat, j ≤ l.length ∧ i = .int .i64 j ∧ Below w.heap.size w wr ∧ Hid (OwnN wr w.heap.size (fun _ => False) 50 3 v ((withF [] (l.take j) (t.take j)).map Ev.toD))) (fun _ i _ => l.length - (intOf i).toNat)
  case atStart => exact ⟨0, Nat.zero_le _, rfl, HB1.out, HON⟩
  case round =>
    obtain ⟨j, hj, rfl, hb, HO⟩ := hrel
    by_cases hlt : j < l.length
    · obtain ⟨oa, ocap, ho⟩ := HO.out.form
      subst ho
      have hlen : ((withF [] (l.take j) (t.take j)).map Ev.toD).length = j := by have := HTL.out; simp [withF]; omega
      rw [hlen] at HO ⊢
      have HLN := Lib.hid hlen
      clear hlen
      obtain ⟨hxa, hbl⟩ := g1 (by omega)
      obtain ⟨q0, q1⟩ := HC.out.1.two j hlt rfl
      have e0 := (hb.cell (p := ⟨y.b, y.o + j * 2, none⟩) hbl).trans q0
      have e1 := (hb.cell (p := ⟨y.b, y.o + j * 2 + 1, none⟩) hbl).trans q1
      obtain ⟨hza, hzb⟩ := k1 (by have := HTL.out; omega)
      have e2 := (hb.cell (p := ⟨z.b, z.o + j, none⟩) hzb).trans (HK.out.2 j (by rw [nats_length]; have := HTL.out; omega))
      rw [show (nats t)[j]'(by rw [nats_length]; have := HTL.out; omega) = (t[j]'(by have := HTL.out; omega) : Int) from by simp [nats]] at e2
      have hT : withF [] (l.take (j + 1)) (t.take (j + 1)) = withF [] (l.take j) (t.take j) ++ [⟨l[j].name, l[j].sort, (t[j]'(by have := HTL.out; omega) : Nat)⟩] := by
        unfold withF
        rw [List.take_succ_eq_append_getElem hlt, List.take_succ_eq_append_getElem (show j < t.length by have := HTL.out; omega), List.zip_append (by have := HTL.out; simp; omega), List.map_append, List.append_assoc]
        rfl
      have HT := Lib.hid hT
      have hfj := HC.out.2 _ (List.getElem_mem hlt)
      have hki : I64 (t[j]'(by have := HTL.out; omega) : Nat) := by
        have hjt : j < (nats t).length := by rw [nats_length]; have := HTL.out; omega
        have := HK.out.1 ((nats t)[j]'hjt) (List.getElem_mem hjt)
        exact ⟨by omega, by have h2 := this.2; simpa [nats] using h2⟩
      have HF := Lib.hid (And.intro hfj hki)
      have hb1 : Below wr.heap.size wr wr.drew := (Below.refl _ _).drew
      have HO1 := Lib.hid (HO.out.below hb1)
      have HB2 := Lib.hid (hb.trans (hb1.mono hb.size))
      rw [hxa, hza]
      clear q0 q1 hb1 hT hfj hki
      generalize withF [] (l.take j) (t.take j) = bs at HO HO1 HT HLN
      generalize t[j]'(by have := HTL.out; omega) = tk at HT HF e2
      generalize l[j] = be at HF HT HO1 HB2 e0 e1 e2
      obtain ⟨nm, so⟩ := be
      simp only at HF HT HO1 HB2 e0 e1 e2
      have hjl : (j : Int) < (t.length : Int) := by have := HTL.out; omega
      go_wp2_with fail
      go_region_law (first | (refine step_append_oneO (W0 := wr.drew) (B := wr.heap.size) rfl (by rfl) _ _ 32 (by rfl) 50 i0 _ 3 32 Tryz.underlying32 hi hz0 hz1 hz2 rfl (by decide) (.slice oa j ocap) (bs.map Ev.toD) (Ev.toD ⟨nm, so, tk⟩) [.string ⟨nm.toArray⟩, .int .i64 so, .int .i64 tk] 50 rfl rfl HO1.out (DsAt.flat1 (Ev.flatT.flat _) ⟨HF.out.1.1, HF.out.1.2.1, HF.out.2.wf, trivial⟩) (by have := HB2.out.size; omega) rfl (by rw [HLN.out]; unfold maxLen; omega) (by rw [HLN.out]; omega) ?_; intro ao cap w5 hon hb5; rw [HLN.out] at hon ⊢; have HON := Lib.hid (And.intro hon (HB2.out.trans hb5)); clear hon hb5))
      all_goals
        go_wp2_with fail
        refine ⟨⟨j + 1, by omega, by go_num, HON.out.2, Lib.hid ?_⟩, by simp [intOf]; omega⟩
        rw [HT.out, List.map_append]
        exact HON.out.1
    · have HE : Hid (withF [] (l.take j) (t.take j) = withF [] l t) := Lib.hid (by rw [List.take_of_length_le (by omega), List.take_of_length_le (by have := HTL.out; omega)])
      go_wp2_with fail
      go_ret
      refine ⟨_, rfl, ?_, hb⟩
      rw [← HE.out]
      exact HO.out

theorem ints_take {a b : List Int} {j : Nat} (hj : j < a.length) (hk : j < b.length) (h : a.take j = b.take j) : a[j] = b[j] ↔ a.take (j + 1) = b.take (j + 1) := by
  have e1 := List.take_succ_eq_append_getElem hj
  have e2 := List.take_succ_eq_append_getElem hk
  rw [e1, e2, h, List.append_cancel_left_eq, List.cons.injEq]
  exact ⟨fun h => ⟨h, rfl⟩, fun h => h.1⟩
set_option maxRecDepth 100000 in
set_option maxHeartbeats 2000000 in
theorem rints_any (a : List Int) (x : SlA) (b : List Int) (y : SlA) (w : World) (hx : SlIn w (· < w.heap.size) (dints a) x) (hy : SlIn w (· < w.heap.size) (dints b) y) (hl : b.length ≤ 2000000) :
    Calls Tryz.prog 50 #[.slice x.a a.length x.cap, .slice y.a b.length y.cap] w fun e w' => e = .returned (.bool (decide (a = b))) ∧ Below w.heap.size w w' := by
  obtain ⟨g1, _, _, g4, g5⟩ := hx.ints
  obtain ⟨k1, _, _, k4, k5⟩ := hy.ints
  have HX := Lib.hid (And.intro g1 g5)
  have HY := Lib.hid (And.intro k1 k5)
  clear hx hy g1 g4 g5 k1 k4 k5
  generalize hres : decide (a = b) = res
  have HR := Lib.hid hres
  clear hres
  by_cases hln : a.length = b.length
  rotate_left
  · have q : ((a.length : Int) != (b.length : Int)) = true := by simp; omega
    obtain rfl : res = false := by rw [← HR.out]; simp; intro h; exact hln (by rw [h])
    clear hln
    go_enter Tryz.func50, Tryz.ntmps50
    go_wp2_with fail
    go_ret
    exact ⟨rfl, Below.refl _ _⟩
  have HLN := Lib.hid hln
  have hl' : a.length ≤ 2000000 := by omega
  have q : ((a.length : Int) != (b.length : Int)) = false := by simp; omega
  clear hln
  go_enter Tryz.func50, Tryz.ntmps50
  go_wp2_with fail
  clear q
  go_loopw [5] (fun i wr => ∃ j : Nat, j ≤ a.length ∧ i = .int .i64 j ∧ Hid (Below w.heap.size w wr) ∧ Hid (a.take j = b.take j)) (fun i _ => a.length - (intOf i).toNat)
  case atStart => exact ⟨0, Nat.zero_le _, rfl, Lib.hid (Below.refl _ _), Lib.hid rfl⟩
  case round =>
    obtain ⟨j, hj, rfl, HB, HT⟩ := hrel
    by_cases hlt : j < a.length
    · have hlt2 : j < b.length := by have := HLN.out; omega
      obtain ⟨hxa, hxb⟩ := HX.out.1 (by omega)
      obtain ⟨hya, hyb⟩ := HY.out.1 (by omega)
      have e0 := (HB.out.cell (p := ⟨x.b, x.o + j, none⟩) hxb).trans (HX.out.2 j hlt)
      have e1 := (HB.out.cell (p := ⟨y.b, y.o + j, none⟩) hyb).trans (HY.out.2 j hlt2)
      have HTK := Lib.hid (ints_take hlt hlt2 HT.out)
      have hjb : (j : Int) < (b.length : Int) := by omega
      rw [hxa, hya]
      clear hxa hxb hya hyb
      by_cases heq : a[j] = b[j]
      · rw [heq] at e0
        have HN := Lib.hid (HTK.out.1 heq)
        clear heq
        generalize b[j] = bj at e0 e1
        go_wp2_with fail
        go_quiet (fail)
        go_wp2_with fail
        exact ⟨⟨j + 1, by omega, by go_num, Lib.hid (HB.out.trans ⟨rfl, rfl, rfl, Nat.le_refl _, fun _ _ => rfl⟩), HN⟩, by simp [intOf]; omega⟩
      · have q2 : (a[j] != b[j]) = true := by simp [heq]
        obtain rfl : res = false := by rw [← HR.out]; simp; intro h; subst h; exact heq rfl
        clear heq
        generalize a[j] = aj at e0 q2
        generalize b[j] = bj at e1 q2
        go_wp2_with fail
        go_quiet (fail)
        go_wp2_with fail
        go_ret
        exact ⟨rfl, HB.out.trans ⟨rfl, rfl, rfl, Nat.le_refl _, fun _ _ => rfl⟩⟩
    · obtain rfl : res = true := by
        rw [← HR.out, decide_eq_true_eq]
        have := HT.out
        rwa [List.take_of_length_le (by omega), List.take_of_length_le (by have := HLN.out; omega)] at this
      go_wp2_with fail
      go_ret
      exact ⟨rfl, HB.out⟩

theorem nats_inj {a b : List Nat} : nats a = nats b ↔ a = b := by
  constructor
  · intro h
    have e : ∀ l : List Nat, (nats l).map Int.toNat = l := fun l => by
      unfold nats
      rw [List.map_map]
      exact (List.map_congr_left (fun x _ => by simp)).trans (List.map_id _)
    rw [← e a, ← e b, h]
  · rintro rfl; rfl
set_option maxRecDepth 100000 in
set_option maxHeartbeats 2000000 in
theorem rsame_one (i1 i2 : Nat) (t1 t2 : List Nat) (xb xo xc yb yo yc : Nat) (z1 z2 : SlA) (w : World) (hxb : xb < w.heap.size) (hyb : yb < w.heap.size) (hl : t2.length ≤ 2000000)
    (x0 : w.cell? ⟨xb, xo, none⟩ = some (.int .i64 i1)) (x1 : w.cell? ⟨xb, xo + 1, none⟩ = some (.slice z1.a t1.length z1.cap)) (y0 : w.cell? ⟨yb, yo, none⟩ = some (.int .i64 i2)) (y1 : w.cell? ⟨yb, yo + 1, none⟩ = some (.slice z2.a t2.length z2.cap))
    (h1 : SlIn w (· < w.heap.size) (dints (nats t1)) z1) (h2 : SlIn w (· < w.heap.size) (dints (nats t2)) z2) :
    Calls Tryz.prog 22 #[.slice (some ⟨xb, xo, none⟩) 1 xc, .slice (some ⟨yb, yo, none⟩) 1 yc] w fun e w' => e = .returned (.bool (decide (i1 = i2) && decide (t1 = t2))) ∧ Below w.heap.size w w' := by
  have hcl := fun (W : World) (hW : Below w.heap.size w W) => rints_any (nats t1) z1 (nats t2) z2 W (h1.later hW hW.size) (h2.later hW hW.size) (by simpa using hl)
  simp only [nats_length] at hcl
  have HCL := Lib.hid hcl
  have HC := Lib.hid (fun (W : World) (hW : Below w.heap.size w W) => (show W.cell? ⟨xb, xo, none⟩ = some (.int .i64 i1) ∧ W.cell? ⟨xb, xo + 1, none⟩ = some (.slice z1.a t1.length z1.cap) ∧ W.cell? ⟨yb, yo, none⟩ = some (.int .i64 i2) ∧ W.cell? ⟨yb, yo + 1, none⟩ = some (.slice z2.a t2.length z2.cap) from
    ⟨(hW.cell (p := ⟨xb, xo, none⟩) hxb).trans x0, (hW.cell (p := ⟨xb, xo + 1, none⟩) hxb).trans x1, (hW.cell (p := ⟨yb, yo, none⟩) hyb).trans y0, (hW.cell (p := ⟨yb, yo + 1, none⟩) hyb).trans y1⟩))
  clear x0 x1 y0 y1 h1 h2 hcl hl
  generalize hres : (decide (i1 = i2) && decide (t1 = t2)) = res
  have HR := Lib.hid hres
  clear hres
  go_enter Tryz.func22, Tryz.ntmps22
  go_wp2_with fail
  go_loopw [5] (fun i wr => ∃ j : Nat, j ≤ 1 ∧ i = .int .i64 j ∧ Hid (Below w.heap.size w wr) ∧ Hid (j = 1 → res = true)) (fun i _ => 1 - (intOf i).toNat)
  case atStart => exact ⟨0, Nat.zero_le _, rfl, Lib.hid (Below.refl _ _), Lib.hid (fun h => by omega)⟩
  case round =>
    obtain ⟨j, hj, rfl, HB, HT⟩ := hrel
    rcases j with _ | j
    · obtain ⟨c0, c1, c2, c3⟩ := HC.out _ HB.out
      by_cases hi : i1 = i2
      · subst hi
        have HR2 : Hid (decide (t1 = t2) = res) := Lib.hid (by rw [← HR.out]; simp)
        clear HR HT hj
        go_wp2_with fail
        go_region_held3 (fun w' => w'.cell? ⟨xb, xo, none⟩ = some (.int .i64 i1) ∧ w'.cell? ⟨xb, xo + 1, none⟩ = some (.slice z1.a t1.length z1.cap) ∧ w'.cell? ⟨yb, yo, none⟩ = some (.int .i64 i1) ∧ w'.cell? ⟨yb, yo + 1, none⟩ = some (.slice z2.a t2.length z2.cap)) ((refine HC.out _ ?_; first | exact H2.out | exact HB.out.drew | fail)) (first
          | (go_at_call 50; refine (HCL.out _ HB.out.drew).mono ?_; rintro e w2 ⟨rfl, hb⟩; have H2 := Lib.hid (HB.out.drew.trans (hb.mono HB.out.size)); clear hb; simp only [nats_inj]; rw [HR2.out]))
        all_goals
          cases res
          · go_wp2_with fail
            go_ret
            exact ⟨rfl, H2.out⟩
          · go_wp2_with fail
            exact ⟨⟨1, by omega, by go_num, H2, Lib.hid (by first | trivial | (intro _; rfl) | (intro _; trivial))⟩, by simp [intOf]⟩
      · obtain rfl : res = false := by rw [← HR.out]; simp [hi]
        have q : ((i1 : Int) != (i2 : Int)) = true := by simp; omega
        clear hi HR HT hj
        go_wp2_with fail
        go_quiet (fail)
        go_wp2_with fail
        go_ret
        exact ⟨rfl, HB.out.trans ⟨rfl, rfl, rfl, Nat.le_refl _, fun _ _ => rfl⟩⟩
    · obtain rfl : j = 0 := by omega
      obtain rfl : res = true := HT.out (by first | rfl | trivial)
      go_wp2_with fail
      go_ret
      exact ⟨rfl, HB.out⟩
end Go.Proofs.YtlfjjokcbeaekaaGreatDoor

/- EvalAdditive, of the functions. -/
namespace Go.Chalk
open Go.RowKit
theorem mem_sum_le {α : Type} (f : α → Nat) : ∀ {l : List α} {x : α}, x ∈ l → f x ≤ (l.map f).sum
  | y :: r, x, h => by
    rw [List.map_cons, List.sum_cons]
    rcases List.mem_cons.1 h with rfl | h
    · omega
    · have := mem_sum_le f h; omega
/-- What a successful Judge says of the rules. -/
theorem add_ok {s : Schl} {w : List Plc} {rl : List Rul} (h : (evJudge s w rl).2.2 = 0) :
    evBroken s w rl = (brokenGo s w rl 0, 0) ∧ ∀ r ∈ rl, typRule r = 0 ∧ evInsts s r = (tuplesF (sizesF s r.each), 0) ∧ (tuplesF (sizesF s r.each)).length ≤ 4096 ∧ ∀ t ∈ tuplesF (sizesF s r.each), t.length = r.each.length ∧ evHolds s w (withF [] r.each t) r.body = (!(violB s w r t), 0) := by
  rw [evJudge_e] at h
  obtain ⟨h1, h2, h3⟩ := evBroken_ok.1 h
  obtain ⟨g1, _, g3⟩ := great_no s rl 0 0 h3
  refine ⟨evBroken_val h, fun r hr => ?_⟩
  have ht := (typRules_zero.1 h2).1 r hr
  have hm : manyF s r.each ≤ 4096 := by have := mem_sum_le (fun r => manyF s r.each) hr; omega
  refine ⟨ht, ?_, by rw [manyF_tuples (by omega)]; exact hm, fun t htm => ?_⟩
  · unfold evInsts
    rw [if_neg (by rw [week_school h1]; simp), if_neg (by rw [ht]; simp), if_neg (by omega)]
  · have hk := inst_ok h1 ht (g3 r hr) hm htm
    obtain ⟨t1, _⟩ := (tuples_mem _ _).1 htm
    refine ⟨by rw [t1]; simp [sizesF], ?_⟩
    rw [evHolds_val hk]
    simp [violB]
theorem add_sum {s : Schl} {w : List Plc} {l m : List Rul} (hl : (l ++ m).length ≤ 2000000) (h1 : (evJudge s w l).2.2 = 0) (h2 : (evJudge s w m).2.2 = 0) (h : (evJudge s w (l ++ m)).2.2 = 0) :
    (evJudge s w (l ++ m)).1 = (evJudge s w l).1 + (evJudge s w m).1 ∧ (evJudge s w (l ++ m)).2.1 = (evJudge s w l).2.1 + (evJudge s w m).2.1 ∧ (evJudge s w (l ++ m)).1 ≤ 8192000000 ∧ 0 ≤ (evJudge s w (l ++ m)).2.1 ∧ (evJudge s w (l ++ m)).2.1 ≤ 8192000000000 := by
  obtain ⟨k1, k2⟩ := judge_add h1 h2 h
  obtain ⟨_, g2, g3⟩ := evBroken_rules (s := s) (w := w) (l := l ++ m)
  have g2 := g2.resolve_right (by omega)
  have e := evJudge_eq s w (l ++ m)
  refine ⟨k1, k2, ?_, ?_⟩
  · rw [e]; exact Nat.le_trans (hardJ_le _ _) g2
  · rw [e]
    simp only
    by_cases hb : (evBroken s w (l ++ m)).1 = []
    · rw [hb]; simp [costJ]
    · have := costJ_le (l ++ m) (g3 hb) (evBroken s w (l ++ m)).1
      omega
/-- The plain law, as the walk asks for it: ahead of the instances. -/
theorem add_plain (s : Schl) (w : List Plc) (l m : List Rul) (hl : (l ++ m).length ≤ 2000000) (A B X : Nat × Int × Int) (hA : A = evJudge s w l) (hB : B = evJudge s w m) (hX : X = evJudge s w (l ++ m)) :
    (A.2.2 ≠ 0 ∨ B.2.2 ≠ 0 → X.2.2 ≠ 0) ∧ (A.2.2 = 0 → B.2.2 = 0 → (X.2.2 ≠ 0 → X.2.2 = 82 ∨ X.2.2 = 2) ∧ (X.2.2 = 0 → X.1 = A.1 + B.1 ∧ X.2.1 = A.2.1 + B.2.1 ∧ X.1 ≤ 8192000000 ∧ 0 ≤ X.2.1 ∧ X.2.1 ≤ 8192000000000)) := by
  subst hA hB hX
  exact ⟨fun h => add_err h, fun h1 h2 => ⟨fun h => add_twice h1 h2 h, fun h => add_sum hl h1 h2 h⟩⟩
end Go.Chalk
