/- Joined texts: EvW, Help, Exam. -/
import Derived.Test.YtlfjjokcbeaekaaGreatDoorB40
import Derived.Test.YtlfjjokcbeaekaaGreatDoorB09

/- eval.Judge. -/
namespace Go.Chalk
open Go.RowKit
/-- The sums over the first j of a list of instances. -/
def hardJ (l : List Rul) (b : List (Nat × List Nat)) : Nat := b.countP (fun x => (l[x.1]?.map Rul.hard).getD false)
def costJ (l : List Rul) (b : List (Nat × List Nat)) : Int := ((b.filter (fun x => !((l[x.1]?.map Rul.hard).getD false))).map (fun x => (l[x.1]?.map Rul.weight).getD 0)).sum
theorem evJudge_eq (s : Schl) (w : List Plc) (l : List Rul) : evJudge s w l = (hardJ l (evBroken s w l).1, costJ l (evBroken s w l).1, (evBroken s w l).2) := rfl
theorem hardJ_snoc (l : List Rul) (b : List (Nat × List Nat)) (p : Nat × List Nat) (h : p.1 < l.length) : hardJ l (b ++ [p]) = hardJ l b + (if l[p.1].hard then 1 else 0) := by
  unfold hardJ
  rw [List.countP_append, List.countP_singleton, List.getElem?_eq_getElem h]; rfl
theorem costJ_snoc (l : List Rul) (b : List (Nat × List Nat)) (p : Nat × List Nat) (h : p.1 < l.length) : costJ l (b ++ [p]) = costJ l b + (if l[p.1].hard then 0 else l[p.1].weight) := by
  unfold costJ
  rw [List.filter_append, List.map_append, List.sum_append]
  congr 1
  simp only [List.filter_cons, List.filter_nil, List.getElem?_eq_getElem h, Option.map_some, Option.getD_some]
  cases l[p.1].hard <;> simp [h]
theorem hardJ_le (l : List Rul) (b : List (Nat × List Nat)) : hardJ l b ≤ b.length := List.countP_le_length
theorem costJ_le (l : List Rul) (hw : ∀ r ∈ l, 0 ≤ r.weight ∧ r.weight ≤ 1000) : ∀ (b : List (Nat × List Nat)), 0 ≤ costJ l b ∧ costJ l b ≤ 1000 * (b.length : Int)
  | [] => by simp [costJ]
  | p :: r => by
    obtain ⟨h1, h2⟩ := costJ_le l hw r
    have e : costJ l (p :: r) = (if (l[p.1]?.map Rul.hard).getD false then 0 else (l[p.1]?.map Rul.weight).getD 0) + costJ l r := by
      unfold costJ
      rw [List.filter_cons]
      cases (l[p.1]?.map Rul.hard).getD false <;> simp
    have hb : 0 ≤ (l[p.1]?.map Rul.weight).getD 0 ∧ (l[p.1]?.map Rul.weight).getD 0 ≤ 1000 := by
      cases h : l[p.1]? with
      | none => simp
      | some q => simpa using hw q (List.mem_of_getElem? h)
    rw [e, List.length_cons]
    split <;> omega
theorem typRule_weight {r : Rul} (h : typRule r = 0) : 0 ≤ r.weight ∧ r.weight ≤ 1000 := by
  unfold typRule at h
  by_cases hc : bndOk ⟨r.name, 1⟩ = false ∨ r.weight < (if r.hard then 0 else 1) ∨ (if r.hard then 0 else 1000) < r.weight ∨ 6 < r.each.length ∨ r.each.all bndOk = false
  · rw [if_pos hc] at h; exact absurd h (by decide)
  · clear h
    simp only [not_or] at hc
    obtain ⟨_, h2, h3, _⟩ := hc
    cases hh : r.hard <;> rw [hh] at h2 h3 <;> simp at h2 h3 <;> omega
theorem broken_rule (s : Schl) (w : List Plc) : ∀ (l : List Rul) (i : Nat), ∀ p ∈ brokenGo s w l i, i ≤ p.1 ∧ p.1 < i + l.length
  | [], i, p, h => by simp [brokenGo] at h
  | r :: l, i, p, h => by
    rw [brokenGo, List.mem_append] at h
    rw [List.length_cons]
    rcases h with h | h
    · obtain ⟨t, _, rfl⟩ := List.mem_map.1 h
      simp only; omega
    · have := broken_rule s w l (i + 1) p h; omega
/-- What Judge reads of what Broken answers. -/
theorem evBroken_rules {s : Schl} {w : List Plc} {l : List Rul} : (∀ p ∈ (evBroken s w l).1, p.1 < l.length) ∧ ((evBroken s w l).1.length ≤ 8192000000 ∨ 2000000 < l.length) ∧ ((evBroken s w l).1 ≠ [] → ∀ r ∈ l, 0 ≤ r.weight ∧ r.weight ≤ 1000) := by
  by_cases h : (evBroken s w l).2 = 0
  · obtain ⟨h1, h2, h3⟩ := evBroken_ok.1 h
    rw [evBroken_val h]
    refine ⟨fun p hp => by have := broken_rule s w l 0 p hp; omega, ?_, fun _ r hr => typRule_weight ((typRules_zero.1 h2).1 r hr)⟩
    have := broken_len s w l 0 (fun r hr => ((great_parts s l 0 0 h3).2.2 r hr).1)
    by_cases hl : 2000000 < l.length
    · exact .inr hl
    · refine .inl ?_
      have h5 : (brokenGo s w l 0).length ≤ 8192000000 := by omega
      exact h5
  · have e : (evBroken s w l).1 = [] := by
      unfold evBroken at h ⊢
      by_cases a : weekCheck s w ≠ 0
      · rw [if_pos a]
      · rw [if_neg a] at h ⊢
        by_cases b : (typRules l).2 ≠ 0
        · rw [if_pos b]
        · rw [if_neg b] at h ⊢
          by_cases c : greatGo s l 0 0 = true
          · rw [if_pos c]
          · rw [if_neg c] at h; exact absurd rfl h
    rw [e]
    exact ⟨fun _ h => (by cases h), Or.inl (by simp), fun h => absurd rfl h⟩
/-- The cells of an instance in a row. -/
theorem SlIn.inst {w : World} {F : Nat → Prop} {l : List (Nat × List Nat)} {x : SlA} (h : SlIn w F (l.map instD) x) (i : Nat) (hi : i < l.length) :
    ∃ y : SlA, SlIn w F (dints (nats l[i].2)) y ∧ ∃ z : SlA, CellsAt w x.b (x.o + i * 6) [.int .i64 l[i].1, .slice y.a l[i].2.length y.cap, .int .i64 0, .int .i64 0, .int .i64 0, .slice z.a 0 z.cap] := by
  obtain ⟨cs, h1, h2⟩ := h.row.get (sz := 6) (fun d hd => by obtain ⟨t, _, rfl⟩ := List.mem_map.1 hd; exact instD_width t) i (by simpa using hi)
  rw [List.getElem_map, instD, DAt] at h1
  simp only [DsAt] at h1
  obtain ⟨_, _, rfl, g0, _, _, rfl, g1, _, _, rfl, g2, rfl⟩ := h1
  rw [DAt] at g0
  obtain ⟨rfl, _⟩ := g0
  obtain ⟨y, rfl, q3⟩ := DAt.sl_iff.1 g1
  rw [DAt] at g2
  simp only [DsAt] at g2
  obtain ⟨_, _, rfl, k0, _, _, rfl, k1, _, _, rfl, k2, _, _, rfl, k3, rfl⟩ := g2
  rw [DAt] at k0; rw [DAt] at k1; rw [DAt] at k2
  obtain ⟨rfl, _⟩ := k0
  obtain ⟨rfl, _⟩ := k1
  obtain ⟨rfl, _⟩ := k2
  obtain ⟨z, rfl, q4⟩ := DAt.sl_iff.1 k3
  exact ⟨y, q3, z, by simpa [SlA.val] using h2⟩
end Go.Chalk
namespace Go.Proofs.YtlfjjokcbeaekaaGreatDoor
open Go.RowKit Go.Chalk

set_option maxRecDepth 100000 in
set_option maxHeartbeats 4000000 in
theorem ejudge_any (s : Schl) (x : SchA) (l : List Plc) (y : SlA) (rl : List Rul) (z : SlA) (w : World) (hI : ItoaAt) (hf : SchFit s) (hrf : ∀ r ∈ rl, RulFit r) (hg : GG w) (hs : SchIn w (· < w.heap.size) s x) (hy : SlIn w (· < w.heap.size) (l.map Plc.toD) y) (hl : l.length ≤ 2000000)
    (hz : SlIn w (· < w.heap.size) (rl.map Rul.toD) z) (hrl : rl.length ≤ 2000000) :
    Calls Tryz.prog 17 #[.agg (x.cells s).toArray, .agg #[.slice y.a l.length y.cap], .slice z.a rl.length z.cap] w fun e w' => e = .returned (.tuple #[.int .i64 (evJudge s l rl).1, .int .i64 (evJudge s l rl).2.1, .int .i64 (evJudge s l rl).2.2]) ∧ Below w.heap.size w w' := by
  have hb0 : Below w.heap.size w ((w.alloc (.cells (x.cells s).toArray 28)).alloc (.cells #[.slice y.a l.length y.cap] 31)) := ((Below.refl _ _).alloc (Nat.le_refl _) _).alloc (by simp) _
  have HBR := Lib.hid (ebroken_any s x l y rl z _ hI hf hrf (hg.below hb0) (hs.later hb0 hb0.size) (hy.later hb0 hb0.size) hl (hz.later hb0 hb0.size) hrl)
  have HIN : Hid (∀ (j : Nat) (hj : j < rl.length), ∃ q : RulA, RulIn w (· < w.heap.size) rl[j] q ∧ CellsAt w z.b (z.o + j * 10) (q.cells rl[j])) := Lib.hid (fun j hj => hz.rul j hj)
  have HSL := Lib.hid hz.at_
  have HER := Lib.hid (evBroken_rules (s := s) (w := l) (l := rl))
  have HB := Lib.hid hb0
  have HRL := Lib.hid hrl
  rw [evJudge_eq]
  clear hs hz hg hrf hf hI hb0 hy hl hrl
  generalize (evBroken s l rl).1 = bl at HBR HER ⊢
  generalize (evBroken s l rl).2 = be at HBR ⊢
  simp only [SlA.val, SchA.cells] at HB HBR ⊢
  go_enter Tryz.func17, Tryz.ntmps17
  go_wp2_with fail
  refine HBR.out.mono ?_
  rintro e w1 ⟨x0, rfl, hx0, hb1⟩
  have HXA := Lib.hid hx0.at_
  have HIX : Hid (∀ (i : Nat) (hi : i < bl.length), ∃ q z0 : SlA, CellsAt w1 x0.b (x0.o + i * 6) [.int .i64 bl[i].1, .slice q.a bl[i].2.length q.cap, .int .i64 0, .int .i64 0, .int .i64 0, .slice z0.a 0 z0.cap]) := Lib.hid (fun i hi => by
    obtain ⟨q, _, z0, h⟩ := hx0.inst i hi
    exact ⟨q, z0, h⟩)
  have HC1 := Lib.hid (HB.out.trans (hb1.mono HB.out.size))
  obtain ⟨bn, hbn⟩ : ∃ bn, bn = bl.length := ⟨_, rfl⟩
  have HBN := Lib.hid hbn
  rw [← hbn]
  clear hx0 hb1 hbn
  go_wp2_with fail
  go_loopw [6, 7, 22] (fun h c i wr => ∃ j : Nat, j ≤ bn ∧ i = .int .i64 j ∧ h = .int .i64 (hardJ rl (bl.take j) : Nat) ∧ c = .int .i64 (costJ rl (bl.take j)) ∧ Below w1.heap.size w1 wr) (fun _ _ i _ => bn - (intOf i).toNat)
  case atStart => exact ⟨0, Nat.zero_le _, rfl, by simp [hardJ], by simp [costJ], Below.refl _ _⟩
  case round =>
    obtain ⟨j, hj, rfl, rfl, rfl, hb⟩ := hrel
    have hbn2 : bn ≤ 8192000000 := by have := HBN.out; have := HER.out.2.1; have := HRL.out; omega
    have hjl : (bl.take j).length ≤ j := List.length_take_le j bl
    have hh := hardJ_le rl (bl.take j)
    have hcc : 0 ≤ costJ rl (bl.take j) ∧ costJ rl (bl.take j) ≤ 1000 * (j : Int) := by
      by_cases he : bl = []
      · subst he; simp [costJ]; omega
      · have := costJ_le rl (HER.out.2.2 he) (bl.take j); omega
    by_cases hlt : j < bn
    · have hjb : j < bl.length := by rw [← HBN.out]; exact hlt
      obtain ⟨q, z0, hq⟩ := HIX.out j hjb
      obtain ⟨hxa, hxb⟩ := HXA.out (by rw [List.length_map]; omega)
      obtain ⟨e0, e1, e2, e3, e4, e5⟩ := (hq.agree (agree_of_below hb) hxb.2).six
      have hpl : bl[j].1 < rl.length := HER.out.1 _ (List.getElem_mem hjb)
      obtain ⟨r, hr1, hr2⟩ := HIN.out bl[j].1 hpl
      obtain ⟨hza, hzb⟩ := HSL.out (by rw [List.length_map]; omega)
      obtain ⟨f0, f1, f2, f3, f4, f5, f6, f7, f8, f9⟩ := (hr2.agree (agree_of_below (HC1.out.trans (hb.mono HC1.out.size))) hzb).ten
      have hwt := HER.out.2.2 (fun e => by rw [e] at hjb; simp at hjb) _ (List.getElem_mem hpl)
      have HT1 := Lib.hid (hardJ_snoc rl (bl.take j) bl[j] hpl)
      have HT2 := Lib.hid (costJ_snoc rl (bl.take j) bl[j] hpl)
      rw [← List.take_succ_eq_append_getElem hjb] at HT1 HT2
      have HB1 := Lib.hid hb
      have hzl : z.b < wr.heap.size := Nat.lt_of_lt_of_le hzb (Nat.le_trans HC1.out.size hb.size)
      have hxl : x0.b < wr.heap.size := Nat.lt_of_lt_of_le hxb.2 hb.size
      rw [hxa, hza]
      clear hq hxb hr1 hr2 hzb hxa hza hb
      generalize hardJ rl (bl.take j) = hh0 at HT1 hh
      generalize costJ rl (bl.take j) = cc0 at HT2 hcc
      generalize rl[bl[j].1] = re at HT1 HT2 f0 f1 f2 f3 f4 f5 f6 f7 f8 f9 hwt
      generalize bl[j].2.length = tl at e1
      generalize bl[j].1 = pp at e0 f0 f1 f2 f3 f4 f5 f6 f7 f8 f9 hpl
      obtain ⟨name, hard, weight, each, ⟨kind, fname, fn, terms, binds, fl⟩⟩ := re
      obtain ⟨ye, yb⟩ := r
      simp only [SlA.val, Frm.kind, Frm.name, Frm.n, Frm.terms, Frm.binds, Frm.l] at HT1 HT2 f0 f1 f2 f3 f4 f5 f6 f7 f8 f9 hwt
      cases hard
      · go_wp2_with fail
        exact ⟨⟨j + 1, by omega, by go_num, by rw [HT1.out]; simp, by rw [HT2.out]; simp, HB1.out.trans (((Below.refl _ _).alloc (Nat.le_refl _) _).alloc (by simp) _ |>.mono HB1.out.size)⟩, by simp [intOf]; omega⟩
      · go_wp2_with fail
        exact ⟨⟨j + 1, by omega, by go_num, by rw [HT1.out]; simp, by rw [HT2.out]; simp, HB1.out.trans (((Below.refl _ _).alloc (Nat.le_refl _) _).alloc (by simp) _ |>.mono HB1.out.size)⟩, by simp [intOf]; omega⟩
    · have HL : Hid (bl.take j = bl) := Lib.hid (List.take_of_length_le (by have := HBN.out; omega))
      have HB1 := Lib.hid hb
      clear hb
      go_wp2_with fail
      refine bodyPost_ret (v := .tuple #[.int .i64 (hardJ rl (bl.take j) : Nat), .int .i64 (costJ rl (bl.take j)), .int .i64 be]) (by simp [results, Tryz.results17, go_sem]) rfl ?_
      exact ⟨by rw [HL.out], HC1.out.trans (HB1.out.mono HC1.out.size)⟩
end Go.Proofs.YtlfjjokcbeaekaaGreatDoor

/- The law's two, both, one, example. -/
namespace Go.Chalk
open Go.RowKit
/-- A formula's own cells lie there; its parts are data. -/
theorem FrmIn.cells_at {w : World} {F : Nat → Prop} {f : Frm} {y : FrmA} (h : FrmIn w F f y) : DAt w F f.toD (y.cells f) := FrmIn.iff.2 ⟨y, rfl, h⟩
theorem DsAt.two_of {w : World} {F : Nat → Prop} {x y : D} {cs ds : List Value} (h : DAt w F x cs) (k : DAt w F y ds) : DsAt w F [x, y] (cs ++ ds) := by
  rw [DsAt]; exact ⟨cs, ds, rfl, h, by rw [DsAt]; exact ⟨ds, [], by simp, k, by rw [DsAt]⟩⟩
theorem DsAt.one_of' {w : World} {F : Nat → Prop} {x : D} {cs : List Value} (h : DAt w F x cs) : DsAt w F [x] cs := by rw [DsAt]; exact ⟨cs, [], (List.append_nil _).symm, h, by rw [DsAt]⟩
/-- The blocks from lo on. -/
def Fr (lo : Nat) (w : World) (k : Nat) : Prop := lo ≤ k ∧ k < w.heap.size
theorem SlIn.laterB {lo : Nat} {w w' : World} {xs : List D} {x : SlA} (h : SlIn w (Fr lo w) xs x) (hb : Below w.heap.size w w') : SlIn w' (Fr lo w') xs x :=
  (h.agree (fun k hk => hb.block k hk.2)).mono (fun _ hk => ⟨hk.1, Nat.lt_of_lt_of_le hk.2 hb.size⟩)
theorem FrmIn.laterB {lo : Nat} {w w' : World} {f : Frm} {x : FrmA} (h : FrmIn w (Fr lo w) f x) (hb : Below w.heap.size w w') : FrmIn w' (Fr lo w') f x :=
  (h.agree (fun k hk => hb.block k hk.2)).mono (fun _ hk => ⟨hk.1, Nat.lt_of_lt_of_le hk.2 hb.size⟩)
theorem FrmIn.all {lo : Nat} {w : World} {f : Frm} {x : FrmA} (h : FrmIn w (Fr lo w) f x) : FrmIn w (· < w.heap.size) f x := h.mono (fun _ hk => hk.2)
theorem FrmIn.fr {w : World} {f : Frm} {x : FrmA} (h : FrmIn w (· < w.heap.size) f x) : FrmIn w (Fr 0 w) f x := h.mono (fun _ hk => ⟨Nat.zero_le _, hk⟩)
theorem SlIn.fr {w : World} {xs : List D} {x : SlA} (h : SlIn w (· < w.heap.size) xs x) : SlIn w (Fr 0 w) xs x := h.mono (fun _ hk => ⟨Nat.zero_le _, hk⟩)
/-- A slice laid in one new block. -/
theorem SlIn.lit' {lo : Nat} {w : World} {xs : List D} {cs : List Value} {e : TypeId} {n : Nat} (hlo : lo ≤ w.heap.size) (h : DsAt w (Fr lo w) xs cs) (hn : xs.length = n) (hm : n ≤ maxLen) :
    SlIn (w.alloc (.cells cs.toArray e)) (Fr lo (w.alloc (.cells cs.toArray e))) xs ⟨some ⟨w.heap.size, 0, none⟩, w.heap.size, 0, n⟩ :=
  SlIn.lit (by rw [heap_get, if_pos rfl]) (DsAt.mono (fun k hk => ⟨hk.1, by have := hk.2; simp; omega⟩) _ _ (DsAt.agree (fun k hk => Below.heap_alloc _ _ _ hk.2) _ _ h)) ⟨hlo, by simp⟩ (by omega) hm
def twoF (kind : Int) (a b : Bs) : Frm := .mk kind [] 0 [⟨2, a, 0⟩, ⟨2, b, 0⟩] [] []
def bothF (kind : Int) (f g : Frm) : Frm := .mk kind [] 0 [] [] [f, g]
def oneF (kind n : Int) (binds : List Bnd) (f : Frm) : Frm := .mk kind [] n [] binds [f]
end Go.Chalk
namespace Go.Proofs.YtlfjjokcbeaekaaGreatDoor
open Go.RowKit Go.Chalk

set_option maxRecDepth 100000 in
set_option maxHeartbeats 2000000 in
theorem ltwo_any (kind : Int) (a b : Bs) (w : World) (lo : Nat) (hlo : lo ≤ w.heap.size) (hk : I64 kind) (ha : a.length ≤ 4000000) (hb : b.length ≤ 4000000) :
    Calls Tryz.prog 52 #[.int .i64 kind, .string ⟨a.toArray⟩, .string ⟨b.toArray⟩] w fun e w' => ∃ y : FrmA, e = .returned (ndV (twoF kind a b, y)) ∧ FrmIn w' (Fr lo w') (twoF kind a b) y ∧ Below w.heap.size w w' := by
  go_enter Tryz.func52, Tryz.ntmps52
  go_wp2_with fail
  refine bodyPost_ret (v := .agg #[.int .i64 kind, .string ⟨([] : Bs).toArray⟩, .int .i64 0, .slice (some ⟨w.heap.size + 1, 0, none⟩) 2 2, .slice none 0 0, .slice none 0 0]) (by simp [results, Tryz.results52, go_sem]) rfl ?_
  obtain ⟨W1, hW1⟩ : ∃ W1, W1 = w.alloc (.cells #[.int .i64 kind, .string ⟨#[]⟩, .int .i64 0, .slice (some ⟨w.heap.size + 1, 0, none⟩) 2 2, .slice none 0 0, .slice none 0 0] 37) := ⟨_, rfl⟩
  rw [← hW1]
  have hsz : W1.heap.size = w.heap.size + 1 := by rw [hW1]; simp
  have hb1 : Below w.heap.size w W1 := by rw [hW1]; exact (Below.refl _ _).alloc (Nat.le_refl _) _
  have fn : ∀ c : Bs, c.length ≤ 4000000 → (Trm.toD ⟨2, c, 0⟩).fine := fun c hc => ⟨I64.wf (show I64 2 by unfold I64; omega), by show (⟨c.toArray⟩ : ByteArray).size ≤ maxLen; rw [bs_size]; unfold maxLen; omega, I64.wf (show I64 0 by unfold I64; omega), trivial⟩
  have ht := SlIn.lit' (lo := lo) (w := W1) (e := 116) (n := 2) (by omega) (DsAt.flat2 (w := W1) (F := Fr lo W1) (x := Trm.toD ⟨2, a, 0⟩) (y := Trm.toD ⟨2, b, 0⟩) rfl (fn a ha) rfl (fn b hb)) rfl (by decide)
  refine ⟨⟨⟨some ⟨W1.heap.size, 0, none⟩, W1.heap.size, 0, 2⟩, ⟨none, 0, 0, 0⟩, ⟨none, 0, 0, 0⟩⟩, by rw [hsz]; rfl, ⟨hk, Nat.zero_le _, (show I64 0 by unfold I64; omega), ht, SlIn.nil (Nat.zero_le _) _ _ _, SlIn.nil (Nat.zero_le _) _ _ _⟩, hb1.alloc (by omega) _⟩

set_option maxRecDepth 100000 in
set_option maxHeartbeats 2000000 in
theorem lboth_any (kind : Int) (f g : Frm) (y z : FrmA) (w : World) (lo : Nat) (hlo : lo ≤ w.heap.size) (hk : I64 kind) (hy : FrmIn w (Fr lo w) f y) (hz : FrmIn w (Fr lo w) g z) :
    Calls Tryz.prog 13 #[.int .i64 kind, ndV (f, y), ndV (g, z)] w fun e w' => ∃ u : FrmA, e = .returned (ndV (bothF kind f g, u)) ∧ FrmIn w' (Fr lo w') (bothF kind f g) u ∧ Below w.heap.size w w' := by
  have HY := Lib.hid (And.intro hy hz)
  clear hy hz
  obtain ⟨k1, n1, m1, t1, b1, l1⟩ := f
  obtain ⟨k2, n2, m2, t2, b2, l2⟩ := g
  have e1 : ndV (.mk k1 n1 m1 t1 b1 l1, y) = .agg #[.int .i64 k1, .string ⟨n1.toArray⟩, .int .i64 m1, .slice y.t.a t1.length y.t.cap, .slice y.b.a b1.length y.b.cap, .slice y.l.a l1.length y.l.cap] := rfl
  have e2 : ndV (.mk k2 n2 m2 t2 b2 l2, z) = .agg #[.int .i64 k2, .string ⟨n2.toArray⟩, .int .i64 m2, .slice z.t.a t2.length z.t.cap, .slice z.b.a b2.length z.b.cap, .slice z.l.a l2.length z.l.cap] := rfl
  rw [e1, e2]
  clear e1 e2
  go_enter Tryz.func13, Tryz.ntmps13
  go_wp2_with fail
  refine bodyPost_ret (v := .agg #[.int .i64 kind, .string ⟨#[]⟩, .int .i64 0, .slice none 0 0, .slice none 0 0, .slice (some ⟨w.heap.size + 1 + 1 + 1, 0, none⟩) 2 2]) (by simp [results, Tryz.results13, go_sem]) rfl ?_
  obtain ⟨W1, hW1⟩ : ∃ W1, W1 = ((w.alloc (.cells #[.int .i64 k1, .string ⟨n1.toArray⟩, .int .i64 m1, .slice y.t.a t1.length y.t.cap, .slice y.b.a b1.length y.b.cap, .slice y.l.a l1.length y.l.cap] 37)).alloc (.cells #[.int .i64 k2, .string ⟨n2.toArray⟩, .int .i64 m2, .slice z.t.a t2.length z.t.cap, .slice z.b.a b2.length z.b.cap, .slice z.l.a l2.length z.l.cap] 37)).alloc (.cells #[.int .i64 kind, .string ⟨#[]⟩, .int .i64 0, .slice none 0 0, .slice none 0 0, .slice (some ⟨w.heap.size + 1 + 1 + 1, 0, none⟩) 2 2] 37) := ⟨_, rfl⟩
  rw [← hW1]
  have hsz : W1.heap.size = w.heap.size + 3 := by rw [hW1]; simp
  have hb1 : Below w.heap.size w W1 := by rw [hW1]; exact (((Below.refl _ _).alloc (Nat.le_refl _) _).alloc (by simp) _).alloc (by simp; omega) _
  have ht := SlIn.lit' (w := W1) (e := 37) (n := 2) (by omega) (DsAt.two_of (HY.out.1.laterB hb1).cells_at (HY.out.2.laterB hb1).cells_at) rfl (by decide)
  exact ⟨⟨⟨none, 0, 0, 0⟩, ⟨none, 0, 0, 0⟩, ⟨some ⟨W1.heap.size, 0, none⟩, W1.heap.size, 0, 2⟩⟩, by rw [hsz]; rfl, ⟨hk, Nat.zero_le _, (show I64 0 by unfold I64; omega), SlIn.nil (Nat.zero_le _) _ _ _, SlIn.nil (Nat.zero_le _) _ _ _, ht⟩, hb1.alloc (by omega) _⟩

set_option maxRecDepth 100000 in
set_option maxHeartbeats 2000000 in
theorem lone_any (kind n : Int) (binds : List Bnd) (f : Frm) (x : SlA) (y : FrmA) (w : World) (lo : Nat) (hlo : lo ≤ w.heap.size) (hk : I64 kind) (hn : I64 n) (hx : SlIn w (Fr lo w) (binds.map Bnd.toD) x) (hy : FrmIn w (Fr lo w) f y) :
    Calls Tryz.prog 12 #[.int .i64 kind, .int .i64 n, .slice x.a binds.length x.cap, ndV (f, y)] w fun e w' => ∃ u : FrmA, e = .returned (ndV (oneF kind n binds f, u)) ∧ FrmIn w' (Fr lo w') (oneF kind n binds f) u ∧ Below w.heap.size w w' := by
  have HY := Lib.hid (And.intro hx hy)
  clear hx hy
  obtain ⟨k1, n1, m1, t1, b1, l1⟩ := f
  have e1 : ndV (.mk k1 n1 m1 t1 b1 l1, y) = .agg #[.int .i64 k1, .string ⟨n1.toArray⟩, .int .i64 m1, .slice y.t.a t1.length y.t.cap, .slice y.b.a b1.length y.b.cap, .slice y.l.a l1.length y.l.cap] := rfl
  rw [e1]
  clear e1
  go_enter Tryz.func12, Tryz.ntmps12
  go_wp2_with fail
  refine bodyPost_ret (v := .agg #[.int .i64 kind, .string ⟨#[]⟩, .int .i64 n, .slice none 0 0, .slice x.a binds.length x.cap, .slice (some ⟨w.heap.size + 1 + 1, 0, none⟩) 1 1]) (by simp [results, Tryz.results12, go_sem]) rfl ?_
  obtain ⟨W1, hW1⟩ : ∃ W1, W1 = (w.alloc (.cells #[.int .i64 k1, .string ⟨n1.toArray⟩, .int .i64 m1, .slice y.t.a t1.length y.t.cap, .slice y.b.a b1.length y.b.cap, .slice y.l.a l1.length y.l.cap] 37)).alloc (.cells #[.int .i64 kind, .string ⟨#[]⟩, .int .i64 n, .slice none 0 0, .slice x.a binds.length x.cap, .slice (some ⟨w.heap.size + 1 + 1, 0, none⟩) 1 1] 37) := ⟨_, rfl⟩
  rw [← hW1]
  have hsz : W1.heap.size = w.heap.size + 2 := by rw [hW1]; simp
  have hb1 : Below w.heap.size w W1 := by rw [hW1]; exact ((Below.refl _ _).alloc (Nat.le_refl _) _).alloc (by simp) _
  have ht := SlIn.lit' (w := W1) (e := 37) (n := 1) (by omega) (DsAt.one_of' (HY.out.2.laterB hb1).cells_at) rfl (by decide)
  exact ⟨⟨⟨none, 0, 0, 0⟩, x, ⟨some ⟨W1.heap.size, 0, none⟩, W1.heap.size, 0, 1⟩⟩, by rw [hsz]; rfl, ⟨hk, Nat.zero_le _, hn, SlIn.nil (Nat.zero_le _) _ _ _, HY.out.1.laterB (hb1.alloc (by omega) _), ht⟩, hb1.alloc (by omega) _⟩
end Go.Proofs.YtlfjjokcbeaekaaGreatDoor

/- The law's example. -/
namespace Go.Proofs.YtlfjjokcbeaekaaGreatDoor
open Go.RowKit Go.Chalk

set_option maxRecDepth 100000 in
set_option maxHeartbeats 4000000 in
theorem lexample_any (w : World) : Calls Tryz.prog 24 #[] w fun e w' => ∃ y : FrmA, e = .returned (ndV (exF, y)) ∧ FrmIn w' (· < w'.heap.size) exF y ∧ Below w.heap.size w w' := by
  have i0 : I64 0 := by unfold I64; omega
  have i1 : I64 1 := by unfold I64; omega
  have i2 : I64 2 := by unfold I64; omega
  have I := Lib.hid (And.intro (show I64 3 by unfold I64; omega) (And.intro (show I64 10 by unfold I64; omega) (And.intro (show I64 11 by unfold I64; omega) (And.intro (show I64 15 by unfold I64; omega) (And.intro (show I64 12 by unfold I64; omega) (And.intro i0 (And.intro i1 i2)))))))
  clear i0 i1 i2
  have hb0 : Below w.heap.size w (w.alloc (.cells #[.int .i64 0, .string ⟨#[]⟩, .int .i64 0, .slice none 0 0, .slice none 0 0, .slice none 0 0] 37)) := (Below.refl _ _).alloc (Nat.le_refl _) _
  have HP : Hid (∀ W W' : World, Below W.heap.size W W' → W.heap[w.heap.size]? = some (.cells #[.int .i64 0, .string ⟨#[]⟩, .int .i64 0, .slice none 0 0, .slice none 0 0, .slice none 0 0] 37 (0, 0)) → W'.heap[w.heap.size]? = some (.cells #[.int .i64 0, .string ⟨#[]⟩, .int .i64 0, .slice none 0 0, .slice none 0 0, .slice none 0 0] 37 (0, 0))) := Lib.hid (fun W W' hb h => (hb.block _ (Array.getElem?_eq_some_iff.1 h).1).trans h)
  have P0 : Hid ((w.alloc (.cells #[.int .i64 0, .string ⟨#[]⟩, .int .i64 0, .slice none 0 0, .slice none 0 0, .slice none 0 0] 37)).heap[w.heap.size]? = some (.cells #[.int .i64 0, .string ⟨#[]⟩, .int .i64 0, .slice none 0 0, .slice none 0 0, .slice none 0 0] 37 (0, 0))) := Lib.hid (by rw [heap_get, if_pos rfl])
  have HB0 := Lib.hid hb0
  clear hb0
  have hsz0 : (w.alloc (.cells #[.int .i64 0, .string ⟨#[]⟩, .int .i64 0, .slice none 0 0, .slice none 0 0, .slice none 0 0] 37)).heap.size = w.heap.size + 1 := by simp
  have S0 := Lib.hid hsz0
  clear hsz0
  go_enter Tryz.func24, Tryz.ntmps24
  go_wp2_with fail
  refine (ltwo_any 3 [108] [115] _ (w.heap.size + 1) (Nat.le_of_eq S0.out.symm) I.out.1 (by decide) (by decide)).mono ?_
  rintro e w1 ⟨y1, rfl, h1, b1⟩
  have S1 := Lib.hid (Nat.le_trans (Nat.le_of_eq S0.out.symm) b1.size)
  have H1 := Lib.hid (And.intro h1 (HB0.out.trans (b1.mono HB0.out.size)))
  have P1 := Lib.hid (HP.out _ _ b1 P0.out)
  clear h1 b1
  go_wp2_with fail
  refine (ltwo_any 3 [109] [115] _ (w.heap.size + 1) S1.out I.out.1 (by decide) (by decide)).mono ?_
  rintro e w2 ⟨y2, rfl, h2, b2⟩
  have S2 := Lib.hid (Nat.le_trans S1.out b2.size)
  have H2 := Lib.hid (And.intro h2 (And.intro (H1.out.2.trans (b2.mono H1.out.2.size)) (H1.out.1.laterB b2)))
  have P2 := Lib.hid (HP.out _ _ b2 P1.out)
  clear h2 b2
  go_wp2_with fail
  refine (lone_any 10 0 [] _ ⟨none, 0, 0, 0⟩ y2 _ (w.heap.size + 1) S2.out I.out.2.1 I.out.2.2.2.2.2.1 (SlIn.nil (Nat.zero_le _) _ _ _) H2.out.1).mono ?_
  rintro e w3 ⟨y3, rfl, h3, b3⟩
  have S3 := Lib.hid (Nat.le_trans S2.out b3.size)
  have H3 := Lib.hid (And.intro h3 (And.intro (H2.out.2.1.trans (b3.mono H2.out.2.1.size)) (H2.out.2.2.laterB b3)))
  have P3 := Lib.hid (HP.out _ _ b3 P2.out)
  clear h3 b3
  go_wp2_with fail
  refine (lboth_any 11 _ _ y1 y3 _ (w.heap.size + 1) S3.out I.out.2.2.1 H3.out.2.2 H3.out.1).mono ?_
  rintro e w4 ⟨y4, rfl, h4, b4⟩
  have S4 := Lib.hid (Nat.le_trans S3.out b4.size)
  have H4 := Lib.hid (And.intro h4 (H3.out.2.1.trans (b4.mono H3.out.2.1.size)))
  have P4 := Lib.hid (HP.out _ _ b4 P3.out)
  clear h4 b4
  have e4 : ndV (bothF 11 (twoF 3 [108] [115]) (oneF 10 0 [] (twoF 3 [109] [115])), y4) = .agg #[.int .i64 11, .string ⟨#[]⟩, .int .i64 0, .slice y4.t.a 0 y4.t.cap, .slice y4.b.a 0 y4.b.cap, .slice y4.l.a 2 y4.l.cap] := rfl
  rw [e4]
  clear e4
  go_wp2_with fail
  obtain ⟨V5, hV5⟩ : ∃ V5, V5 = w4.alloc (.cells #[.int .i64 11, .string ⟨#[]⟩, .int .i64 0, .slice y4.t.a 0 y4.t.cap, .slice y4.b.a 0 y4.b.cap, .slice y4.l.a 2 y4.l.cap] 37) := ⟨_, rfl⟩
  have hv5 : V5.heap.size = w4.heap.size + 1 := by rw [hV5]; simp
  have bv5 : Below w4.heap.size w4 V5 := by rw [hV5]; exact (Below.refl _ _).alloc (Nat.le_refl _) _
  have hbd := SlIn.lit' (w := V5) (e := 47) (n := 1) (lo := w.heap.size + 1) (by have := S4.out; omega) (DsAt.flat1 (F := Fr (w.heap.size + 1) V5) (x := Bnd.toD ⟨[115], 2⟩) rfl ⟨by show (⟨([115] : Bs).toArray⟩ : ByteArray).size ≤ maxLen; rw [bs_size]; decide, I64.wf I.out.2.2.2.2.2.2.2, trivial⟩) rfl (by decide)
  rw [← hV5]
  rw [hv5] at hbd
  obtain ⟨W5, hW5⟩ : ∃ W5, W5 = V5.alloc (.cells #[.string ⟨#[115]⟩, .int .i64 2] 47) := ⟨_, rfl⟩
  have hbd' : SlIn W5 (Fr (w.heap.size + 1) W5) ([(⟨[115], 2⟩ : Bnd)].map Bnd.toD) ⟨some ⟨w4.heap.size + 1, 0, none⟩, w4.heap.size + 1, 0, 1⟩ := by rw [hW5]; exact hbd
  have b45 : Below w4.heap.size w4 W5 := by rw [hW5]; exact bv5.alloc bv5.size _
  have h8 : W5.heap[w4.heap.size]? = some (.cells #[.int .i64 11, .string ⟨#[]⟩, .int .i64 0, .slice y4.t.a 0 y4.t.cap, .slice y4.b.a 0 y4.b.cap, .slice y4.l.a 2 y4.l.cap] 37 (0, 0)) := by rw [hW5, hV5, heap_get, if_neg (by simp), heap_get, if_pos rfl]
  have H5 := Lib.hid (And.intro (H4.out.2.trans (b45.mono H4.out.2.size)) (And.intro (H4.out.1.laterB b45) h8))
  have HBD := Lib.hid hbd'
  have P5 := Lib.hid (HP.out _ _ b45 P4.out)
  have S5 := Lib.hid (Nat.le_trans S4.out b45.size)
  rw [← hW5]
  clear hV5 hv5 bv5 hbd hW5 hbd' b45 h8
  refine (lone_any 15 0 [⟨[115], 2⟩] (bothF 11 (twoF 3 [108] [115]) (oneF 10 0 [] (twoF 3 [109] [115]))) ⟨some ⟨w4.heap.size + 1, 0, none⟩, w4.heap.size + 1, 0, 1⟩ y4 W5 (w.heap.size + 1) S5.out I.out.2.2.2.1 I.out.2.2.2.2.2.1 HBD.out H5.out.2.1).mono ?_
  rintro e w5 ⟨y5, rfl, h5, b5⟩
  have S6 := Lib.hid (Nat.le_trans S5.out b5.size)
  have H6 := Lib.hid (And.intro h5 (H5.out.1.trans (b5.mono H5.out.1.size)))
  have P6 := Lib.hid (HP.out _ _ b5 P5.out)
  clear h5 b5
  have e5 : ndV (oneF 15 0 [⟨[115], 2⟩] (bothF 11 (twoF 3 [108] [115]) (oneF 10 0 [] (twoF 3 [109] [115]))), y5) = .agg #[.int .i64 15, .string ⟨#[]⟩, .int .i64 0, .slice y5.t.a 0 y5.t.cap, .slice y5.b.a 1 y5.b.cap, .slice y5.l.a 1 y5.l.cap] := rfl
  rw [e5]
  clear e5
  go_wp2_with fail
  have fn : ∀ c : Bs, c.length ≤ 4 → (Trm.toD ⟨2, c, 0⟩).fine := fun c hc => ⟨I64.wf (show I64 2 by unfold I64; omega), by show (⟨c.toArray⟩ : ByteArray).size ≤ maxLen; rw [bs_size]; unfold maxLen; omega, I64.wf (show I64 0 by unfold I64; omega), trivial⟩
  obtain ⟨V6, hV6⟩ : ∃ V6, V6 = w5.alloc (.cells #[.int .i64 15, .string ⟨#[]⟩, .int .i64 0, .slice y5.t.a 0 y5.t.cap, .slice y5.b.a 1 y5.b.cap, .slice y5.l.a 1 y5.l.cap] 37) := ⟨_, rfl⟩
  have hv6 : V6.heap.size = w5.heap.size + 1 := by rw [hV6]; simp
  have bv6 : Below w5.heap.size w5 V6 := by rw [hV6]; exact (Below.refl _ _).alloc (Nat.le_refl _) _
  have htd := SlIn.lit' (w := V6) (e := 116) (n := 2) (lo := w.heap.size + 1) (by have := S6.out; omega) (DsAt.flat2 (F := Fr (w.heap.size + 1) V6) (x := Trm.toD ⟨2, [108], 0⟩) (y := Trm.toD ⟨2, [109], 0⟩) rfl (fn _ (by decide)) rfl (fn _ (by decide))) rfl (by decide)
  rw [hv6] at htd
  rw [← hV6]
  obtain ⟨U6, hU6⟩ : ∃ U6, U6 = V6.alloc (.cells #[.int .i64 2, .string ⟨#[108]⟩, .int .i64 0, .int .i64 2, .string ⟨#[109]⟩, .int .i64 0] 116) := ⟨_, rfl⟩
  have htd' : SlIn U6 (Fr (w.heap.size + 1) U6) ([vT 108, vT 109].map Trm.toD) ⟨some ⟨w5.heap.size + 1, 0, none⟩, w5.heap.size + 1, 0, 2⟩ := by rw [hU6]; exact htd
  have bu6 : Below w5.heap.size w5 U6 := by rw [hU6]; exact bv6.alloc bv6.size _
  rw [← hU6]
  obtain ⟨W6, hW6⟩ : ∃ W6, W6 = U6.alloc (.cells #[.int .i64 9, .string ⟨#[61]⟩, .int .i64 0, .slice (some ⟨w5.heap.size + 1, 0, none⟩) 2 2, .slice none 0 0, .slice none 0 0] 37) := ⟨_, rfl⟩
  have b56 : Below w5.heap.size w5 W6 := by rw [hW6]; exact bu6.alloc bu6.size _
  have hcmp : FrmIn W6 (Fr (w.heap.size + 1) W6) (.mk 9 [61] 0 [vT 108, vT 109] [] []) ⟨⟨some ⟨w5.heap.size + 1, 0, none⟩, w5.heap.size + 1, 0, 2⟩, ⟨none, 0, 0, 0⟩, ⟨none, 0, 0, 0⟩⟩ :=
    ⟨(show I64 9 by unfold I64; omega), by decide, (show I64 0 by unfold I64; omega), by
      rw [hW6]
      exact htd'.laterB ((Below.refl _ _).alloc (Nat.le_refl _) _), SlIn.nil (Nat.zero_le _) _ _ _, SlIn.nil (Nat.zero_le _) _ _ _⟩
  have h57 := H6.out.1.laterB b56
  have HQ := Lib.hid (And.intro hcmp (And.intro h57 (H6.out.2.trans (b56.mono H6.out.2.size))))
  have S7 := Lib.hid (Nat.le_trans S6.out b56.size)
  have P7 := Lib.hid (HP.out _ _ b56 P6.out)
  rw [← hW6]
  clear hcmp h57 b56 htd fn hW6 hV6 hv6 bv6 hU6 htd' bu6
  refine (lboth_any 12 (.mk 9 [61] 0 [vT 108, vT 109] [] []) _ ⟨⟨some ⟨w5.heap.size + 1, 0, none⟩, w5.heap.size + 1, 0, 2⟩, ⟨none, 0, 0, 0⟩, ⟨none, 0, 0, 0⟩⟩ y5 _ (w.heap.size + 1) S7.out I.out.2.2.2.2.1 HQ.out.1 HQ.out.2.1).mono ?_
  rintro e w7 ⟨y7, rfl, h7, b7⟩
  have P8 := HP.out _ _ b7 P7.out
  have H8 := Lib.hid (And.intro h7 (And.intro (HQ.out.2.2.trans (b7.mono HQ.out.2.2.size)) P8))
  have e7 : ndV (bothF 12 (.mk 9 [61] 0 [vT 108, vT 109] [] []) (oneF 15 0 [⟨[115], 2⟩] (bothF 11 (twoF 3 [108] [115]) (oneF 10 0 [] (twoF 3 [109] [115])))), y7) = .agg #[.int .i64 12, .string ⟨#[]⟩, .int .i64 0, .slice y7.t.a 0 y7.t.cap, .slice y7.b.a 0 y7.b.cap, .slice y7.l.a 2 y7.l.cap] := rfl
  rw [e7]
  clear e7 h7 b7
  have u0 := frozen_of_heap (i := 0) P8
  have u1 := frozen_of_heap (i := 1) P8
  have u2 := frozen_of_heap (i := 2) P8
  have u3 := frozen_of_heap (i := 3) P8
  have u4 := frozen_of_heap (i := 4) P8
  have u5 := frozen_of_heap (i := 5) P8
  have c0 : w7.cell? ⟨w.heap.size, 0, none⟩ = some (.int .i64 0) := cell_of_heap P8 rfl
  have c1 : w7.cell? ⟨w.heap.size, 1, none⟩ = some (.string ⟨#[]⟩) := cell_of_heap P8 rfl
  have c2 : w7.cell? ⟨w.heap.size, 2, none⟩ = some (.int .i64 0) := cell_of_heap P8 rfl
  have c3 : w7.cell? ⟨w.heap.size, 3, none⟩ = some (.slice none 0 0) := cell_of_heap P8 rfl
  have c4 : w7.cell? ⟨w.heap.size, 4, none⟩ = some (.slice none 0 0) := cell_of_heap P8 rfl
  have c5 : w7.cell? ⟨w.heap.size, 5, none⟩ = some (.slice none 0 0) := cell_of_heap P8 rfl
  have hlt := (Array.getElem?_eq_some_iff.1 P8).1
  clear P8
  go_wp2_with fail
  refine bodyPost_ret (v := .agg #[.int .i64 12, .string ⟨#[]⟩, .int .i64 0, .slice y7.t.a 0 y7.t.cap, .slice y7.b.a 0 y7.b.cap, .slice y7.l.a 2 y7.l.cap]) (by simp [results, Tryz.results24, go_sem, *]) rfl ?_
  have hm := ((((((Chalk.Mod.refl (fun k => k = w.heap.size) w7).setCell (p := ⟨w.heap.size, 0, none⟩) (fun _ => rfl) (.int .i64 12)).setCell (p := ⟨w.heap.size, 1, none⟩) (fun _ => rfl) (.string ⟨#[]⟩)).setCell (p := ⟨w.heap.size, 2, none⟩) (fun _ => rfl) (.int .i64 0)).setCell (p := ⟨w.heap.size, 3, none⟩) (fun _ => rfl) (.slice y7.t.a 0 y7.t.cap)).setCell (p := ⟨w.heap.size, 4, none⟩) (fun _ => rfl) (.slice y7.b.a 0 y7.b.cap)).setCell (p := ⟨w.heap.size, 5, none⟩) (fun _ => rfl) (.slice y7.l.a 2 y7.l.cap)
  refine ⟨y7, rfl, ((show FrmIn w7 (Fr (w.heap.size + 1) w7) exF y7 from H8.out.1).agree (hm.agree (fun k hk => ⟨hk.2, fun e => by have := hk.1; omega⟩))).mono (fun k hk => Nat.lt_of_lt_of_le hk.2 hm.size), H8.out.2.1.trans (hm.below H8.out.2.1.size (fun k hk => by omega))⟩
end Go.Proofs.YtlfjjokcbeaekaaGreatDoor
