/- Joined texts: EvU. -/
import Derived.Test.YtlfjjokcbeaekaaGreatDoorB39
import Derived.Test.YtlfjjokcbeaekaaGreatDoorB15
import Derived.Test.YtlfjjokcbeaekaaGreatDoorB09

/- eval.Broken. -/
namespace Go.Chalk
open Go.RowKit
/-- An instance, its ground formula not laid. -/
def instD (p : Nat × List Nat) : D := .st [.int .i64 p.1, .sl (dints (nats p.2)), .st [.int .i64 0, .int .i64 0, .int .i64 0, .sl []]]
theorem instD_width (p : Nat × List Nat) : (instD p).width = 6 := by simp [instD, D.width, widths]
theorem instD_widths : ∀ l : List (Nat × List Nat), widths (l.map instD) = (l.map instD).length * 6
  | [] => rfl
  | p :: r => by
    simp only [List.map_cons, widths, instD_width, List.length_cons]
    rw [instD_widths r]; omega
theorem instD_at {w : World} {F : Nat → Prop} {i : Nat} {t : List Nat} {z : SlA} (hi : i ≤ 4000000) (h : SlIn w F (dints (nats t)) z) : DsAt w F [instD (i, t)] [.int .i64 i, .slice z.a t.length z.cap, .int .i64 0, .int .i64 0, .int .i64 0, .slice none 0 0] := by
  have i0 : (Lit.int .i64 0).wf = true := I64.wf (i64_small (by decide) (by decide))
  have h0 : ∀ n : Int, (Lit.int .i64 n).wf = true → DAt w F (.int .i64 n) [.int .i64 n] := fun n h => by rw [DAt]; exact ⟨rfl, h⟩
  rw [DsAt]
  refine ⟨_, [], (List.append_nil _).symm, ?_, by rw [DsAt]⟩
  unfold instD
  rw [DAt, DsAt]
  refine ⟨[_], _, rfl, h0 _ (I64.wf (i64_small (by omega) (by omega))), ?_⟩
  rw [DsAt]
  refine ⟨[_], _, rfl, DAt.sl_iff.2 ⟨z, by simp [SlA.val], h⟩, ?_⟩
  rw [DsAt]
  refine ⟨_, [], (List.append_nil _).symm, ?_, by rw [DsAt]⟩
  rw [DAt, DsAt]
  refine ⟨[_], _, rfl, h0 _ i0, ?_⟩
  rw [DsAt]
  refine ⟨[_], _, rfl, h0 _ i0, ?_⟩
  rw [DsAt]
  refine ⟨[_], _, rfl, h0 _ i0, ?_⟩
  rw [DsAt]
  exact ⟨[_], [], rfl, DAt.sl_iff.2 ⟨⟨none, 0, 0, 0⟩, rfl, SlIn.nil (Nat.zero_le _) _ _ _⟩, by rw [DsAt]⟩
theorem great_parts (s : Schl) : ∀ (l : List Rul) (n wide : Nat), greatGo s l n wide = false → n ≤ 4096 ∧ wide ≤ 1048576 ∧ ∀ r ∈ l, manyF s r.each ≤ 4096 ∧ timesF (manyF s r.each) (broadF s r.body) ≤ 1048576
  | [], n, wide, h => by rw [greatGo] at h; simp at h; exact ⟨h.1, h.2, fun _ h => by cases h⟩
  | q :: l, n, wide, h => by
    rw [greatGo] at h
    obtain ⟨h1, h2, h3⟩ := great_parts s l _ _ h
    refine ⟨by omega, by omega, fun r hr => ?_⟩
    rcases List.mem_cons.1 hr with rfl | hr
    · omega
    · exact h3 r hr
theorem broken_len (s : Schl) (w : List Plc) : ∀ (l : List Rul) (i : Nat), (∀ r ∈ l, manyF s r.each ≤ 4096) → (brokenGo s w l i).length ≤ l.length * 4096
  | [], i, _ => by simp [brokenGo]
  | r :: l, i, h => by
    have h1 := broken_len s w l (i + 1) (fun r hr => h r (by simp [hr]))
    have h2 := h r (by simp)
    have h3 := manyF_tuples (s := s) (l := r.each) (by omega)
    have h4 := List.length_filter_le (fun t => !(holdsF s w (withF [] r.each t) r.body)) (tuplesF (sizesF s r.each))
    rw [brokenGo, List.length_append, List.length_map, List.length_cons]
    omega
theorem broken_snoc (s : Schl) (w : List Plc) : ∀ (l : List Rul) (r : Rul) (i : Nat), brokenGo s w (l ++ [r]) i = brokenGo s w l i ++ ((tuplesF (sizesF s r.each)).filter (fun t => !(holdsF s w (withF [] r.each t) r.body))).map (fun t => (i + l.length, t))
  | [], r, i => by simp [brokenGo]
  | q :: l, r, i => by
    rw [List.cons_append, brokenGo, brokenGo, broken_snoc s w l r (i + 1), List.append_assoc, List.length_cons, show i + 1 + l.length = i + (l.length + 1) from by omega]
theorem broken_take (s : Schl) (w : List Plc) {l : List Rul} {j : Nat} (hj : j < l.length) : brokenGo s w (l.take (j + 1)) 0 = brokenGo s w (l.take j) 0 ++ ((tuplesF (sizesF s l[j].each)).filter (fun t => !(holdsF s w (withF [] l[j].each t) l[j].body))).map (fun t => (j, t)) := by
  rw [List.take_succ_eq_append_getElem hj, broken_snoc, List.length_take, Nat.min_eq_left (by omega), Nat.zero_add]
/-- The violated ones of the first i. -/
def violL (p : List Nat → Bool) (ts : List (List Nat)) (j i : Nat) : List (Nat × List Nat) := ((ts.take i).filter (fun t => !(p t))).map (fun t => (j, t))
theorem violL_zero (p : List Nat → Bool) (ts : List (List Nat)) (j : Nat) : violL p ts j 0 = [] := by simp [violL]
theorem violL_all (p : List Nat → Bool) (ts : List (List Nat)) (j : Nat) : violL p ts j ts.length = (ts.filter (fun t => !(p t))).map (fun t => (j, t)) := by unfold violL; rw [List.take_length]
theorem violL_succ (p : List Nat → Bool) (ts : List (List Nat)) (j i : Nat) (hi : i < ts.length) : violL p ts j (i + 1) = violL p ts j i ++ (if p ts[i] then [] else [(j, ts[i])]) := by
  unfold violL
  rw [List.take_succ_eq_append_getElem hi, List.filter_append, List.map_append]
  congr 1
  cases h : p ts[i] <;> simp [h]
theorem violL_len (p : List Nat → Bool) (ts : List (List Nat)) (j i : Nat) : (violL p ts j i).length ≤ ts.length := by
  unfold violL
  rw [List.length_map]
  exact Nat.le_trans (List.length_filter_le _ _) (by rw [List.length_take]; omega)
end Go.Chalk
namespace Go.Proofs.YtlfjjokcbeaekaaGreatDoor
theorem infoInst : (Tryz.prog.info? 75).map (fun i => (i.zero, i.size, i.bytes)) = some (some (.agg #[.int .i64 0, .slice none 0 0, .int .i64 0, .int .i64 0, .int .i64 0, .slice none 0 0]), 6, 80) := by kernel_rfl
open Go.RowKit Go.Chalk
attribute [local go_sem] Oper.semAt_some
/-- What holds between two rules. -/
structure BrkRel (s : Schl) (x : SchA) (l : List Plc) (y : SlA) (w W : World) (HB : Nat) (xs : List (Nat × List Nat)) (T : Nat → Prop) (ds : List Nat) : Prop where
  below : Below w.heap.size w W
  sch : SchBox W w.heap.size s x
  wk : W.heap[w.heap.size + 1]? = some (.cells #[.slice y.a l.length y.cap] 31 (0, 0))
  lo : w.heap.size + 2 ≤ HB
  box : BoxOwn W HB 59 75 6 HB (xs.map instD) T
  nodup : ds.Nodup
  marks : ∀ d ∈ ds, W.heap[d]? = some (.deferred (some [])) ∧ ¬ T d ∧ w.heap.size < d
theorem BrkRel.low {s : Schl} {x : SchA} {l : List Plc} {y : SlA} {w W : World} {HB : Nat} {xs : List (Nat × List Nat)} {T : Nat → Prop} {ds : List Nat} (R : BrkRel s x l y w W HB xs T ds) : ∀ k, T k → HB ≤ k ∧ k < W.heap.size := by
  obtain ⟨v, r, h1, h2, h3, h4, h5⟩ := R.box
  exact h4
theorem BrkRel.next {s : Schl} {x : SchA} {l : List Plc} {y : SlA} {w Wr W3 A : World} {HB D0 : Nat} {xs xs' : List (Nat × List Nat)} {T1 T' : Nat → Prop} {ds : List Nat} (R : BrkRel s x l y w Wr HB xs T1 ds) (hb3 : Below Wr.heap.size Wr W3) (hD0 : W3.heap.size ≤ D0) (hnD : ¬ T' D0)
    (he : Ext T1 T' W3 A) (hm : Chalk.Mod T1 W3 A) (hx : BoxOwn A HB 59 75 6 HB (xs'.map instD) T') (hdd : A.heap[D0]? = some (.deferred (some []))) : BrkRel s x l y w A HB xs' T' (D0 :: ds) := by
  have hMr : Chalk.Mod T1 Wr A := (Chalk.Mod.of_below (S := T1) hb3).trans hm (fun _ _ h => h)
  have hlow := R.low
  have hsz := R.below.size
  have hs3 := hb3.size
  have hHB : HB < Wr.heap.size := by obtain ⟨v, r, h1, h2, h3, h4, h5⟩ := R.box; exact (h4 _ h2).2
  have hlo := R.lo
  have hlt : ∀ d ∈ ds, d < Wr.heap.size := fun d hd => (Array.getElem?_eq_some_iff.1 (R.marks d hd).1).1
  refine ⟨R.below.trans (hMr.below hsz (fun k hk => by have := (hlow k hk).1; have := R.lo; omega)), heap_kept R.sch hMr (fun h => by have := (hlow _ h).1; have := R.lo; omega), heap_kept R.wk hMr (fun h => by have := (hlow _ h).1; have := R.lo; omega), R.lo, hx,
    List.nodup_cons.2 ⟨fun h => by have := hlt _ h; omega, R.nodup⟩, fun d hd => ?_⟩
  rcases List.mem_cons.1 hd with rfl | hd
  · exact ⟨hdd, hnD, by omega⟩
  · exact ⟨heap_kept (R.marks d hd).1 hMr (R.marks d hd).2.1, he.not (by have := hlt d hd; omega) (R.marks d hd).2.1, (R.marks d hd).2.2⟩

set_option maxRecDepth 100000 in
set_option maxHeartbeats 8000000 in
theorem ebroken_any (s : Schl) (x : SchA) (l : List Plc) (y : SlA) (rl : List Rul) (z : SlA) (w : World) (hI : ItoaAt) (hf : SchFit s) (hrf : ∀ r ∈ rl, RulFit r) (hg : GG w) (hs : SchIn w (· < w.heap.size) s x) (hy : SlIn w (· < w.heap.size) (l.map Plc.toD) y) (hl : l.length ≤ 2000000)
    (hz : SlIn w (· < w.heap.size) (rl.map Rul.toD) z) (hrl : rl.length ≤ 2000000) :
    Calls Tryz.prog 18 #[.agg (x.cells s).toArray, .agg #[.slice y.a l.length y.cap], .slice z.a rl.length z.cap] w fun e w' => ∃ x0 : SlA, e = .returned (.tuple #[.slice x0.a (evBroken s l rl).1.length x0.cap, .int .i64 (evBroken s l rl).2]) ∧ SlIn w' (fun k => w.heap.size ≤ k ∧ k < w'.heap.size) ((evBroken s l rl).1.map instD) x0 ∧ Below w.heap.size w w' := by
  have HWC := Lib.hid (fun (W : World) (hW : Below w.heap.size w W) => wcheck_any s x l y W hI (hs.later hW hW.size) hf (hy.later hW hW.size) hl (hg.below hW))
  have HTR := Lib.hid (fun (W : World) (hW : Below w.heap.size w W) => trules_any rl z W (hz.later hW hW.size) hrl hrf (hg.below hW))
  have HGR := Lib.hid (fun (W : World) (hW : Below w.heap.size w W) => egreat_any s x rl z W hI hf.toSchSmall (hs.later hW hW.size) (hz.later hW hW.size) hrl hrf)
  have HTP := Lib.hid (fun (j : Nat) (hj : j < rl.length) (q : RulA) (W : World) (hW : Below w.heap.size w W) (hq : RulIn w (· < w.heap.size) rl[j] q) => etuples_any s x rl[j].each q.each W hI (hs.later hW hW.size) hf.toSchSmall (hq.each.later hW hW.size) (by have := (hrf _ (List.getElem_mem hj)).len; omega))
  have HWI := Lib.hid (fun (j : Nat) (hj : j < rl.length) (q : RulA) (t : List Nat) (z1 : SlA) (W : World) (hW : Below w.heap.size w W) (hq : RulIn w (· < w.heap.size) rl[j] q) (hz1 : SlIn W (· < W.heap.size) (dints (nats t)) z1) (ht : t.length = rl[j].each.length) => with_any [] ⟨none, 0, 0, 0⟩ rl[j].each q.each t z1 W (SlIn.nil (Nat.zero_le _) _ _ _) (hq.each.later hW hW.size) hz1 (by have := (hrf _ (List.getElem_mem hj)).len; simp; omega) ht)
  have HHO := Lib.hid (fun (h1 : weekCheck s l = 0) (h2 : (typRules rl).2 = 0) (h3 : greatGo s rl 0 0 = false) (j : Nat) (hj : j < rl.length) (q : RulA) (hq : RulIn w (· < w.heap.size) rl[j] q) (t : List Nat) (ht : t ∈ tuplesF (sizesF s rl[j].each)) (z1 : SlA) (W : World) (hW : Below w.heap.size w W) (hz1 : SlIn W (· < W.heap.size) ((withF [] rl[j].each t).map Ev.toD) z1) =>
    holds_any s x l y hI hf (school_valid (week_school h1)).1 (school_valid (week_school h1)).2 rl[j].body.size rl[j].body q.body (withF [] rl[j].each t) z1 W (Nat.le_refl _)
      (inst_ok h1 ((typRules_zero.1 h2).1 _ (List.getElem_mem hj)) ((great_parts s rl 0 0 h3).2.2 _ (List.getElem_mem hj)).2 ((great_parts s rl 0 0 h3).2.2 _ (List.getElem_mem hj)).1 ht)
      (by
        have h := inst_ok h1 ((typRules_zero.1 h2).1 _ (List.getElem_mem hj)) ((great_parts s rl 0 0 h3).2.2 _ (List.getElem_mem hj)).2 ((great_parts s rl 0 0 h3).2.2 _ (List.getElem_mem hj)).1 ht
        have := h.depth
        have := (hrf _ (List.getElem_mem hj)).len
        have : (withF [] rl[j].each t).length ≤ rl[j].each.length := by unfold withF; simp; omega
        omega) (hg.below hW) (hs.later hW hW.size) (hy.later hW hW.size) hz1 (hq.body.later hW hW.size))
  have HIN : Hid (∀ (j : Nat) (hj : j < rl.length), ∃ q : RulA, RulIn w (· < w.heap.size) rl[j] q ∧ CellsAt w z.b (z.o + j * 10) (q.cells rl[j])) := Lib.hid (fun j hj => hz.rul j hj)
  have HSL := Lib.hid hz.at_
  have HR : Hid (evBroken s l rl = if weekCheck s l ≠ 0 then ([], weekCheck s l) else if (typRules rl).2 ≠ 0 then ([], (typRules rl).2) else if greatGo s rl 0 0 then ([], 2) else (brokenGo s l rl 0, 0)) := Lib.hid rfl
  have hb0 : Below w.heap.size w ((w.alloc (.cells (x.cells s).toArray 28)).alloc (.cells #[.slice y.a l.length y.cap] 31)) := ((Below.refl _ _).alloc (Nat.le_refl _) _).alloc (by simp) _
  have hs0 : SchBox ((w.alloc (.cells (x.cells s).toArray 28)).alloc (.cells #[.slice y.a l.length y.cap] 31)) w.heap.size s x := by unfold SchBox; rw [heap_get, if_neg (by simp), heap_get, if_pos rfl]
  have hk0 : ((w.alloc (.cells (x.cells s).toArray 28)).alloc (.cells #[.slice y.a l.length y.cap] 31)).heap[w.heap.size + 1]? = some (.cells #[.slice y.a l.length y.cap] 31 (0, 0)) := by rw [heap_get, if_pos (by simp)]
  have HB := Lib.hid (And.intro hb0 (And.intro hs0 hk0))
  have HRL := Lib.hid hrl
  have hmf : ∀ (fn : Fn) (first cap : Array Value) (w : World), (Instr.makeFunc fn first cap).run Tryz.prog w = .ok (.func fn first cap) w := fun _ _ _ _ => rfl
  clear hs hz hg hrf hf hI hb0 hs0 hk0 hy hl hrl
  generalize hres : evBroken s l rl = res at HR ⊢
  generalize hwc : weekCheck s l = wc at HWC HHO HR
  have HTS : Hid (typRules rl = ((typRules rl).1, (typRules rl).2)) := Lib.hid rfl
  clear hres hwc
  generalize (typRules rl).1 = tn at HTR
  generalize (typRules rl).2 = tf at HTR HHO HR
  generalize hgv : greatGo s rl 0 0 = gv at HGR HHO HR
  have HGV := Lib.hid hgv
  clear hgv HTS
  unfold stV at HHO
  simp only [SlA.val, SchA.cells] at HB HWC HGR HTP HHO ⊢
  obtain ⟨a0, a1, a2, a3, a4⟩ := HB.out.2.1.cells
  have a5 : ((w.alloc (.cells #[.slice x.slots.a s.slots.length x.slots.cap, .slice x.rooms.a s.rooms.length x.rooms.cap, .slice x.people.a s.people.length x.people.cap, .slice x.groups.a s.groups.length x.groups.cap, .slice x.lessons.a s.lessons.length x.lessons.cap] 28)).alloc (.cells #[.slice y.a l.length y.cap] 31)).cell? ⟨w.heap.size + 1, 0, none⟩ = some (.slice y.a l.length y.cap) := cell_of_heap HB.out.2.2 rfl
  refine (callsIn_wide (n := 0)).1 (callsIn_of_wp_marks Tryz.func18 rfl trivial ?_)
  simp only [Tryz.ntmps18, List.size_toArray, List.length_cons, List.length_nil, Nat.reduceAdd, Nat.reduceSub, Array.replicate_succ, Array.replicate_zero, List.push_toArray, List.append_toArray, List.nil_append, List.cons_append]
  gi_wp2_with fail
  refine ⟨trivial, rfl, (callsIn_wide.2 (HWC.out _ HB.out.1)).mono ?_⟩
  rintro e w1 ⟨rfl, hb1⟩
  have HC1 := Lib.hid (And.intro (HB.out.1.trans (hb1.mono HB.out.1.size)) (And.intro (HB.out.2.1.below hb1) ((hb1.block _ (Array.getElem?_eq_some_iff.1 HB.out.2.2).1).trans HB.out.2.2)))
  clear hb1 a0 a1 a2 a3 a4 a5
  by_cases h1 : wc ≠ 0
  · have d1 : (wc != 0) = true := by simpa using h1
    have HD := Lib.hid h1
    clear h1
    gi_wp2_with fail
    refine leaves_marks (v := .tuple #[.slice none 0 0, .int .i64 wc]) [] w1 (fun w => by simp [results, Tryz.results18, go_sem]) (by simp) (fun _ h => by cases h) (fun W' hm' => ?_)
    have e1 : res = ([], wc) := by rw [HR.out]; simp [HD.out]
    exact ⟨⟨none, 0, 0, 0⟩, by rw [e1]; rfl, by rw [e1]; exact SlIn.nil (Nat.zero_le _) _ _ _, HC1.out.1.trans (hm'.below HC1.out.1.size (fun k hk => by cases hk))⟩
  obtain rfl : wc = 0 := by omega
  clear h1
  gi_wp2_with fail
  refine ⟨trivial, rfl, (callsIn_wide.2 (HTR.out _ HC1.out.1)).mono ?_⟩
  rintro e w2 ⟨rfl, hb2⟩
  have HC2 := Lib.hid (And.intro (HC1.out.1.trans (hb2.mono HC1.out.1.size)) (And.intro (HC1.out.2.1.below hb2) ((hb2.block _ (Array.getElem?_eq_some_iff.1 HC1.out.2.2).1).trans HC1.out.2.2)))
  clear hb2
  by_cases h1 : tf ≠ 0
  · have d1 : (tf != 0) = true := by simpa using h1
    have HD := Lib.hid h1
    clear h1
    gi_wp2_with fail
    refine leaves_marks (v := .tuple #[.slice none 0 0, .int .i64 tf]) [] w2 (fun w => by simp [results, Tryz.results18, go_sem]) (by simp) (fun _ h => by cases h) (fun W' hm' => ?_)
    have e1 : res = ([], tf) := by rw [HR.out]; simp [HD.out]
    exact ⟨⟨none, 0, 0, 0⟩, by rw [e1]; rfl, by rw [e1]; exact SlIn.nil (Nat.zero_le _) _ _ _, HC2.out.1.trans (hm'.below HC2.out.1.size (fun k hk => by cases hk))⟩
  obtain rfl : tf = 0 := by omega
  clear h1
  obtain ⟨a0, a1, a2, a3, a4⟩ := HC2.out.2.1.cells
  gi_wp2_with fail
  refine ⟨trivial, rfl, (callsIn_wide.2 (HGR.out _ HC2.out.1)).mono ?_⟩
  rintro e w3 ⟨rfl, hb3⟩
  have HC3 := Lib.hid (And.intro (HC2.out.1.trans (hb3.mono HC2.out.1.size)) (And.intro (HC2.out.2.1.below hb3) ((hb3.block _ (Array.getElem?_eq_some_iff.1 HC2.out.2.2).1).trans HC2.out.2.2)))
  clear hb3 a0 a1 a2 a3 a4
  cases gv
  rotate_left
  · have HD := Lib.hid (rfl : (0 : Int) = 0)
    gi_wp2_with fail
    refine leaves_marks (v := .tuple #[.slice none 0 0, .int .i64 2]) [] w3 (fun w => by simp [results, Tryz.results18, go_sem]) (by simp) (fun _ h => by cases h) (fun W' hm' => ?_)
    have e1 : res = ([], 2) := by rw [HR.out]; simp [HD.out]
    exact ⟨⟨none, 0, 0, 0⟩, by rw [e1]; rfl, by rw [e1]; exact SlIn.nil (Nat.zero_le _) _ _ _, HC3.out.1.trans (hm'.below HC3.out.1.size (fun k hk => by cases hk))⟩
  gi_wp2_with fail
  have hb4 : Below w3.heap.size w3 (w3.alloc (.cells #[.slice none 0 0] 59)) := (Below.refl _ _).alloc (Nat.le_refl _) _
  have hH : w.heap.size + 2 ≤ w3.heap.size := by have := (Array.getElem?_eq_some_iff.1 HC3.out.2.2).1; omega
  have R0 : BrkRel s x l y w (w3.alloc (.cells #[.slice none 0 0] 59)) w3.heap.size (brokenGo s l (rl.take 0) 0) (fun k => k = w3.heap.size) [] :=
    ⟨HC3.out.1.trans (hb4.mono HC3.out.1.size), HC3.out.2.1.below hb4, (hb4.block _ (Array.getElem?_eq_some_iff.1 HC3.out.2.2).1).trans HC3.out.2.2, hH,
      ⟨.slice none 0 0, none, boxed (B := w3.heap.size + 1) (Below.refl _ _) (by omega), rfl, (fun _ h => by cases h), (fun k hk => by have hk' : k = w3.heap.size := hk; simp; omega), Chalk.Own.nil _ _ _ _ (fun k hk => absurd hk.1 hk.2.1)⟩, List.nodup_nil, fun _ h => by cases h⟩
  have HR0 := Lib.hid R0
  have HH := Lib.hid hH
  have HGP := Lib.hid (great_parts s rl 0 0 HGV.out).2.2
  clear R0 hb4 hH
  refine wpIn_loop (fun a' W' => ∃ (j : Nat) (T1 : Nat → Prop) (ds : List Nat) (u12 u13 u35 u36 u37 u38 u39 u40 u41 u42 u61 : Value), j ≤ rl.length ∧ BrkRel s x l y w W' w3.heap.size (brokenGo s l (rl.take j) 0) T1 ds ∧
      a' = { tmps := #[.agg #[.slice x.slots.a s.slots.length x.slots.cap, .slice x.rooms.a s.rooms.length x.rooms.cap, .slice x.people.a s.people.length x.people.cap, .slice x.groups.a s.groups.length x.groups.cap, .slice x.lessons.a s.lessons.length x.lessons.cap], .agg #[.slice y.a l.length y.cap], .slice z.a rl.length z.cap, .pointer (some ⟨w.heap.size, 0, none⟩), .pointer (some ⟨w.heap.size + 1, 0, none⟩), undef, .slice none 0 0, .int .i64 0, .int .i64 0, .int .i64 tn, .int .i64 0, .pointer (some ⟨w3.heap.size, 0, none⟩), u12, u13, undef, .agg #[.slice x.slots.a s.slots.length x.slots.cap, .slice x.rooms.a s.rooms.length x.rooms.cap, .slice x.people.a s.people.length x.people.cap, .slice x.groups.a s.groups.length x.groups.cap, .slice x.lessons.a s.lessons.length x.lessons.cap], .agg #[.slice y.a l.length y.cap], .int .i64 0, .int .i64 0, .bool false, undef, .tuple #[.int .i64 tn, .int .i64 0], .slice z.a rl.length z.cap, .tuple #[.int .i64 tn, .int .i64 0], .int .i64 tn, .int .i64 0, .int .i64 0, .bool false, undef, .agg #[.slice x.slots.a s.slots.length x.slots.cap, .slice x.rooms.a s.rooms.length x.rooms.cap, .slice x.people.a s.people.length x.people.cap, .slice x.groups.a s.groups.length x.groups.cap, .slice x.lessons.a s.lessons.length x.lessons.cap], .slice z.a rl.length z.cap, .bool false, .slice z.a rl.length z.cap, .int .i64 rl.length, .int .i64 (j : Int), u35, u36, u37, u38, u39, u40, u41, u42, undef, undef, undef, undef, undef, undef, undef, undef, undef, undef, undef, undef, undef, undef, undef, undef, undef, undef, u61, undef], defers := ds.map Chalk.mark })
    (fun a' _ => rl.length - (intOf (a'.tmps.getD 34 undef)).toNat) ⟨0, _, [], _, _, _ ,_ ,_ ,_ ,_ ,_ ,_ ,_, _, Nat.zero_le _, HR0.out, rfl⟩ ?_
  clear HR0
  rintro a' wr ⟨j, T1, ds, u12, u13, u35, u36, u37, u38, u39, u40, u41, u42, u61, hj, R, rfl⟩
  have HRR := Lib.hid R
  clear R
  by_cases hlt : j < rl.length
  · obtain ⟨q, hq1, hq2⟩ := HIN.out j hlt
    obtain ⟨hxa, hFb⟩ := HSL.out (by rw [List.length_map]; omega)
    have hys := hq2.agree (agree_of_below HRR.out.below) hFb
    have hsb0 := HRR.out.sch
    have hws0 := HRR.out.sch.lt
    obtain ⟨W5, hW5⟩ : ∃ W5, W5 = (wr.alloc (.cells #[.int .i64 (j : Int)] 3)).alloc (.cells (q.cells rl[j]).toArray 66) := ⟨_, rfl⟩
    have hb5 : Below wr.heap.size wr W5 := by rw [hW5]; exact ((Below.refl _ _).alloc (Nat.le_refl _) _).alloc (by simp) _
    have hz5 : W5.heap.size = wr.heap.size + 2 := by rw [hW5]; simp
    have hi5 : W5.heap[wr.heap.size]? = some (.cells #[.int .i64 (j : Int)] 3 (0, 0)) := by rw [hW5, heap_get, if_neg (by simp), heap_get, if_pos rfl]
    have hr5 : RulBox W5 (wr.heap.size + 1) rl[j] q := by rw [hW5]; unfold RulBox; rw [heap_get, if_pos (by simp)]
    have hbw5 := HRR.out.below.trans (hb5.mono HRR.out.below.size)
    have hs5 := HRR.out.sch.below hb5
    have HTJ := Lib.hid (HTP.out j hlt q W5 hbw5 hq1)
    have H5 := Lib.hid (And.intro hb5 (And.intro hz5 (And.intro hi5 (And.intro hr5 (And.intro hbw5 hs5)))))
    have HQ := Lib.hid hq1
    have HW5 := Lib.hid hW5
    obtain ⟨c0, c1, c2, c3, c4⟩ := hs5.cells
    obtain ⟨_, _, _, d3, _⟩ := hr5.cells
    rw [hW5] at c0 c1 c2 c3 c4 d3
    rw [hxa]
    clear hq1 hq2 hFb hb5 hi5 hr5 hbw5 hs5 hxa hz5 hsb0
    have hre : ∃ re, re = rl[j] := ⟨_, rfl⟩
    obtain ⟨re, hre⟩ := hre
    have HRE := Lib.hid hre
    rw [← hre] at HTJ H5 HQ HW5 hys d3 hW5 c0 c1 c2 c3 c4
    clear hre
    obtain ⟨name, hard, weight, each, ⟨kind, fname, fn, terms, binds, fl⟩⟩ := re
    obtain ⟨ye, yb⟩ := q
    simp only [RulA.cells, SchA.cells, FrmA.cells, SlA.val, Frm.kind, Frm.name, Frm.n, Frm.terms, Frm.binds, Frm.l] at HTJ H5 HW5 hys hW5 c0 c1 c2 c3 c4 d3
    obtain ⟨e0, e1, e2, e3, e4, e5, e6, e7, e8, e9⟩ := hys.ten
    clear hys hW5
    gi_wp2_with fail
    rw [← HW5.out]
    clear c0 c1 c2 c3 c4 d3 e0 e1 e2 e3 e4 e5 e6 e7 e8 e9
    refine ⟨trivial, rfl, (callsIn_wide.2 HTJ.out).mono ?_⟩
    rintro e w6 ⟨sb, lb, rfl, hit, hb6⟩
    have HIT := Lib.hid hit
    have H6 := Lib.hid hb6
    clear hit hb6
    gi_wp2_with fail
    -- THE RANGE
    have hbx6 := HRR.out.box.kept (Chalk.Mod.of_below (S := fun _ => False) (H5.out.1.trans (H6.out.mono H5.out.1.size))) (fun _ h => h.elim)
    have hlow := HRR.out.low
    have hwr6 : W5.heap.size ≤ w6.heap.size := H6.out.size
    have hsc6 : SchBox w6 w.heap.size s x := H5.out.2.2.2.2.2.below H6.out
    have hwk6 : w6.heap[w.heap.size + 1]? = some (.cells #[.slice y.a l.length y.cap] 31 (0, 0)) := ((H5.out.1.trans (H6.out.mono H5.out.1.size)).block _ (Array.getElem?_eq_some_iff.1 HRR.out.wk).1).trans HRR.out.wk
    have hix6 : w6.heap[wr.heap.size]? = some (.cells #[.int .i64 (j : Int)] 3 (0, 0)) := (H6.out.block _ (Array.getElem?_eq_some_iff.1 H5.out.2.2.1).1).trans H5.out.2.2.1
    have hru6 := H5.out.2.2.2.1.below H6.out
    have hbw6 : Below w.heap.size w w6 := H5.out.2.2.2.2.1.trans (H6.out.mono H5.out.2.2.2.2.1.size)
    have htk := broken_take s l hlt
    rw [← HRE.out] at htk
    have hleb := broken_len s l (rl.take (j + 1)) 0 (fun r hr => (HGP.out r (List.mem_of_mem_take hr)).1)
    have hle2 : (tuplesF (sizesF s each)).length ≤ 4096 := by
      have h := (HGP.out _ (List.getElem_mem hlt)).1
      rw [← HRE.out] at h
      exact (manyF_tuples (s := s) (l := each) (Nat.le_trans h (by omega))) ▸ h
    have hlej := broken_len s l (rl.take j) 0 (fun r hr => (HGP.out r (List.mem_of_mem_take hr)).1)
    obtain ⟨VV, hVV⟩ : ∃ VV : Nat → List (Nat × List Nat), VV = violL (fun t => holdsF s l (withF [] each t) (.mk kind fname fn terms binds fl)) (tuplesF (sizesF s each)) j := ⟨_, rfl⟩
    have hV0 : VV 0 = [] := by rw [hVV]; exact violL_zero _ _ _
    have hVm : VV (tuplesF (sizesF s each)).length = ((tuplesF (sizesF s each)).filter (fun t => !(holdsF s l (withF [] each t) (.mk kind fname fn terms binds fl)))).map (fun t => (j, t)) := by rw [hVV]; exact violL_all _ _ _
    have hVs : ∀ (i : Nat) (hi : i < (tuplesF (sizesF s each)).length), VV (i + 1) = VV i ++ (if holdsF s l (withF [] each (tuplesF (sizesF s each))[i]) (.mk kind fname fn terms binds fl) then [] else [(j, (tuplesF (sizesF s each))[i])]) := fun i hi => by rw [hVV]; exact violL_succ _ _ _ i hi
    have hVl : ∀ i, (VV i).length ≤ 4096 := fun i => by rw [hVV]; exact Nat.le_trans (violL_len _ _ _ _) hle2
    have hx0l : (brokenGo s l (rl.take j) 0).length ≤ 2000000 * 4096 := by
      have h1 := List.length_take_le' j rl
      have h2 := HRL.out
      have : (rl.take j).length * 4096 ≤ 2000000 * 4096 := Nat.mul_le_mul (by omega) (Nat.le_refl _)
      omega
    have htkV : brokenGo s l (rl.take (j + 1)) 0 = brokenGo s l (rl.take j) 0 ++ VV (tuplesF (sizesF s each)).length := by rw [htk, hVm]
    have HHJ := Lib.hid (fun (t : List Nat) (ht : t ∈ tuplesF (sizesF s rl[j].each)) (zz : SlA) (W : World) (hW : Below w.heap.size w W) (hz1 : SlIn W (· < W.heap.size) ((withF [] rl[j].each t).map Ev.toD) zz) => HHO.out (by first | rfl | trivial) (by first | rfl | trivial) (by first | rfl | trivial) j hlt ⟨ye, yb⟩ (by rw [← HRE.out]; exact HQ.out) t ht zz W hW hz1)
    have HWJ := Lib.hid (fun (t : List Nat) (zz : SlA) (W : World) (hW : Below w.heap.size w W) (hz1 : SlIn W (· < W.heap.size) (dints (nats t)) zz) (ht : t.length = rl[j].each.length) => HWI.out j hlt ⟨ye, yb⟩ t zz W hW (by rw [← HRE.out]; exact HQ.out) hz1 ht)
    rw [← HRE.out] at HHJ HWJ
    simp only [ndV, FrmA.cells, SlA.val, Frm.kind, Frm.name, Frm.n, Frm.terms, Frm.binds, Frm.l] at HHJ HWJ
    clear hVV hVm htk hleb hlej
    have HVS := Lib.hid hVs
    have HVL := Lib.hid (And.intro hVl hx0l)
    have HTK := Lib.hid htkV
    have HLE := Lib.hid hle2
    clear hVs hVl hx0l htkV hle2 HRE HHO HWI
    generalize hxs0 : brokenGo s l (rl.take j) 0 = xs0 at HTK hbx6 HVL
    have G := Lib.hid (And.intro hbx6 (And.intro hlow (And.intro hwr6 (And.intro hsc6 (And.intro hwk6 (And.intro hix6 (And.intro hru6 (And.intro hbw6 (And.intro H5.out.2.1 hV0)))))))))
    clear hbx6 hlow hwr6 hsc6 hwk6 hix6 hru6 hbw6 hV0 hxs0
    refine wp_rangeV (gf := 81) (lb := #[.pointer (some ⟨sb, 0, none⟩), .pointer (some ⟨lb, 0, none⟩)]) rfl (enters_of Tryz.func81 (by kernel_rfl) rfl)
      HIT.out rfl T1 (fun k hk => ⟨hk.2, fun h => by have := (G.out.2.1 k h).2; have := G.out.2.2.2.2.2.2.2.2.1; omega⟩) (fun k hk => by have := (G.out.2.1 k hk).2; have := G.out.2.2.1; have := G.out.2.2.2.2.2.2.2.2.1; omega)
      (fun i T W => BoxOwn W w3.heap.size 59 75 6 w3.heap.size ((xs0 ++ VV (i)).map instD) T) (fun _ _ _ _ => False) (BoxOwn.stab (xs := fun i => (xs0 ++ VV i).map instD)) (fun _ => false_stab) ?h0
      (fun lp i a' T' W => ∃ (z1 : SlA) (S T0 : Nat → Prop), (∀ k, T' k ↔ T0 k ∨ S k) ∧ (∀ k, S k → ¬ T0 k ∧ k ≠ lp ∧ w3.heap.size ≤ k ∧ k < W.heap.size) ∧ (¬ T' lp → BoxOwn W w3.heap.size 59 75 6 w3.heap.size ((xs0 ++ VV (i)).map instD) T0) ∧ SlIn W S (dints (nats ((tuplesF (sizesF s each))[i]?.getD []))) z1 ∧
        a' = { tmps := #[.agg #[.slice x.slots.a s.slots.length x.slots.cap, .slice x.rooms.a s.rooms.length x.rooms.cap, .slice x.people.a s.people.length x.people.cap, .slice x.groups.a s.groups.length x.groups.cap, .slice x.lessons.a s.lessons.length x.lessons.cap], .agg #[.slice y.a l.length y.cap], .slice (some ⟨z.b, z.o, none⟩) rl.length z.cap, .pointer (some ⟨w.heap.size, 0, none⟩), .pointer (some ⟨w.heap.size + 1, 0, none⟩), undef, .slice none 0 0, .int .i64 0, .int .i64 0, .int .i64 tn, .int .i64 0, .pointer (some ⟨w3.heap.size, 0, none⟩), .pointer (some ⟨wr.heap.size, 0, none⟩), .pointer (some ⟨wr.heap.size + 1, 0, none⟩), .slice z1.a each.length z1.cap, .agg #[.slice x.slots.a s.slots.length x.slots.cap, .slice x.rooms.a s.rooms.length x.rooms.cap, .slice x.people.a s.people.length x.people.cap, .slice x.groups.a s.groups.length x.groups.cap, .slice x.lessons.a s.lessons.length x.lessons.cap], .agg #[.slice y.a l.length y.cap], .int .i64 0, .int .i64 0, .bool false, undef, .tuple #[.int .i64 tn, .int .i64 0], .slice (some ⟨z.b, z.o, none⟩) rl.length z.cap, .tuple #[.int .i64 tn, .int .i64 0], .int .i64 tn, .int .i64 0, .int .i64 0, .bool false, undef, .agg #[.slice x.slots.a s.slots.length x.slots.cap, .slice x.rooms.a s.rooms.length x.rooms.cap, .slice x.people.a s.people.length x.people.cap, .slice x.groups.a s.groups.length x.groups.cap, .slice x.lessons.a s.lessons.length x.lessons.cap], .slice (some ⟨z.b, z.o, none⟩) rl.length z.cap, .bool false, .slice (some ⟨z.b, z.o, none⟩) rl.length z.cap, .int .i64 rl.length, .int .i64 (j : Int), .bool true, .int .i64 (j : Int), .pointer (some ⟨z.b, z.o + j * 10, none⟩), .agg #[.string ⟨name.toArray⟩, .bool hard, .int .i64 weight, .slice ye.a each.length ye.cap, .int .i64 kind, .string ⟨fname.toArray⟩, .int .i64 fn, .slice yb.t.a terms.length yb.t.cap, .slice yb.b.a binds.length yb.b.cap, .slice yb.l.a fl.length yb.l.cap], .agg #[.slice x.slots.a s.slots.length x.slots.cap, .slice x.rooms.a s.rooms.length x.rooms.cap, .slice x.people.a s.people.length x.people.cap, .slice x.groups.a s.groups.length x.groups.cap, .slice x.lessons.a s.lessons.length x.lessons.cap], .pointer (some ⟨wr.heap.size + 1, 3, none⟩), .slice ye.a each.length ye.cap, .func (.func 81) #[] #[.pointer (some ⟨sb, 0, none⟩), .pointer (some ⟨lb, 0, none⟩)], .slice z1.a each.length z1.cap, undef, undef, undef, undef, undef, undef, undef, undef, undef, undef, undef, undef, undef, undef, undef, undef, undef, u61, undef], defers := [] }) ?hAx ?assign ?body ?done ?stop
    case h0 => rw [G.out.2.2.2.2.2.2.2.2.2, List.append_nil]; exact G.out.1
    case hAx =>
      rintro lp i a' T' A B ⟨z1, S, T0, h0, h1, h2, h3, h4⟩ hm
      exact ⟨z1, S, T0, h0, fun k hk => ⟨(h1 k hk).1, (h1 k hk).2.1, (h1 k hk).2.2.1, Nat.lt_of_lt_of_le (h1 k hk).2.2.2 hm.size⟩, fun h => (h2 h).kept hm (fun k hk hk' => h (hk ▸ (h0 k).2 (.inl hk'))), h3.agree (hm.agree (fun k hk => ⟨(h1 k hk).2.2.2, (h1 k hk).2.1⟩)), h4⟩
    case stop => intro _ _ _ _ _ _ _ _ _ _ _ _ h; exact h.elim
    case assign =>
      rintro lp i v S T2 W K hi ⟨z1, rfl, hz1⟩ hv hS hext hm hI hT1 hlt' hK
      have HA := Lib.hid (And.intro hI (And.intro hz1 (And.intro hS hm.size)))
      have HKK := Lib.hid hK
      have hsl : (sizesF s each).length = each.length := by simp [sizesF]
      rw [hsl]
      clear hK hI hz1 hS hv hext hm hT1 hsl
      simp only [SlA.val]
      gi_wp2_with fail
      have hS' : ∀ k, S k → ¬ T2 k ∧ k ≠ lp ∧ w3.heap.size ≤ k ∧ k < W.heap.size := fun k hk => ⟨(HA.out.2.2.1 k hk).2.2.1, (HA.out.2.2.1 k hk).2.2.2, by have := (HA.out.2.2.1 k hk).1; have := G.out.2.2.1; have := G.out.2.2.2.2.2.2.2.2.1; have := HRR.out.box; have := (Array.getElem?_eq_some_iff.1 HRR.out.box.choose_spec.choose_spec.1).1; omega, (HA.out.2.2.1 k hk).2.1⟩
      exact HKK.out _ (fun k => T2 k ∨ S k) _ (Ext.refl _ _ _) (Chalk.Mod.refl _ _) (HA.out.1.take (fun k hk => ⟨(hS' k hk).2.2.1, (hS' k hk).2.2.2, (hS' k hk).1⟩)) ⟨z1, S, T2, fun _ => Iff.rfl, hS', fun _ => HA.out.1, HA.out.2.1, rfl⟩
    case body =>
      rintro lp i T2 a' W hi hext hm hI ⟨z1, S, T0, hT', hS, hB, hz1, rfl⟩ hT2 hwl hnl hlp
      have hno : ∀ k, k < w6.heap.size → ¬ T1 k → W.heap[k]? = w6.heap[k]? := fun k h1 h2 => hm.block k h1 h2
      have hlo3 := HRR.out.lo
      have hwrs : w.heap.size + 2 ≤ wr.heap.size := by have := (Array.getElem?_eq_some_iff.1 HRR.out.wk).1; omega
      have hbW : Below w.heap.size w W := G.out.2.2.2.2.2.2.2.1.trans (hm.below G.out.2.2.2.2.2.2.2.1.size (fun k hk => by have := (G.out.2.1 k hk).1; omega))
      have f0 : SchBox W w.heap.size s x := heap_kept G.out.2.2.2.1 hm (fun h => by have := (G.out.2.1 _ h).1; omega)
      have f1 := heap_kept G.out.2.2.2.2.1 hm (fun h => by have := (G.out.2.1 _ h).1; omega)
      have f2 := heap_kept G.out.2.2.2.2.2.1 hm (fun h => by have := (G.out.2.1 _ h).2; omega)
      have f3 : RulBox W (wr.heap.size + 1) ⟨name, hard, weight, each, .mk kind fname fn terms binds fl⟩ ⟨ye, yb⟩ := heap_kept G.out.2.2.2.2.2.2.1 hm (fun h => by have := (G.out.2.1 _ h).2; omega)
      have hgt : (tuplesF (sizesF s each))[i]?.getD [] = (tuplesF (sizesF s each))[i] := by rw [List.getElem?_eq_getElem hi]; rfl
      have hmem : (tuplesF (sizesF s each))[i] ∈ tuplesF (sizesF s each) := List.getElem_mem _
      have hVi := HVS.out i hi
      rw [hgt] at hz1
      generalize (tuplesF (sizesF s each))[i] = t at hz1 hmem hVi
      have htl : t.length = each.length := ((tuples_mem _ _).1 hmem).1.trans (by simp [sizesF])
      have hzW : SlIn W (· < W.heap.size) (dints (nats t)) z1 := hz1.mono (fun k hk => (hS k hk).2.2.2)
      have hwt := HWJ.out t z1 W.drew hbW.drew (hzW.later (Below.refl _ _).drew (Nat.le_refl _)) htl
      rw [htl] at hwt
      have HWT : Hid (Calls Tryz.prog 40 #[.slice none 0 0, .slice ye.a each.length ye.cap, .slice z1.a each.length z1.cap] W.drew fun e w' => ∃ x0 : SlA, e = .returned (.slice x0.a (withF [] each t).length x0.cap) ∧ SlIn w' (· < w'.heap.size) ((withF [] each t).map Ev.toD) x0 ∧ Below W.drew.heap.size W.drew w') := Lib.hid (hwt.mono (by
        rintro e w' ⟨v, rfl, hon, hb⟩
        obtain ⟨x0, rfl, hx0⟩ := hon.onto.sl (by rw [widths_map Ev.flatT, List.length_map])
        exact ⟨x0, by rw [List.length_map], hx0, hb⟩))
      have HIV := Lib.hid (fun (x0 : SlA) (W2 : World) (hb2 : Below W.heap.size W W2) (hx0 : SlIn W2 (· < W2.heap.size) ((withF [] each t).map Ev.toD) x0) => HHJ.out t hmem x0 W2 (hbW.trans (hb2.mono hbW.size)) hx0)
      have HKS : Hid (∀ w', Below W.heap.size W w' → w'.cell? ⟨w.heap.size, 0, none⟩ = some (.slice x.slots.a s.slots.length x.slots.cap) ∧ w'.cell? ⟨w.heap.size, 1, none⟩ = some (.slice x.rooms.a s.rooms.length x.rooms.cap) ∧ w'.cell? ⟨w.heap.size, 2, none⟩ = some (.slice x.people.a s.people.length x.people.cap) ∧ w'.cell? ⟨w.heap.size, 3, none⟩ = some (.slice x.groups.a s.groups.length x.groups.cap) ∧ w'.cell? ⟨w.heap.size, 4, none⟩ = some (.slice x.lessons.a s.lessons.length x.lessons.cap) ∧ w'.cell? ⟨w.heap.size + 1, 0, none⟩ = some (.slice y.a l.length y.cap) ∧ w'.cell? ⟨wr.heap.size + 1, 3, none⟩ = some (.slice ye.a each.length ye.cap) ∧ w'.cell? ⟨wr.heap.size + 1, 4, none⟩ = some (.int .i64 kind) ∧ w'.cell? ⟨wr.heap.size + 1, 5, none⟩ = some (.string ⟨fname.toArray⟩) ∧ w'.cell? ⟨wr.heap.size + 1, 6, none⟩ = some (.int .i64 fn) ∧ w'.cell? ⟨wr.heap.size + 1, 7, none⟩ = some (.slice yb.t.a terms.length yb.t.cap) ∧ w'.cell? ⟨wr.heap.size + 1, 8, none⟩ = some (.slice yb.b.a binds.length yb.b.cap) ∧ w'.cell? ⟨wr.heap.size + 1, 9, none⟩ = some (.slice yb.l.a fl.length yb.l.cap)) :=
        Lib.hid (fun w' hW => by
          obtain ⟨c0, c1, c2, c3, c4⟩ := (f0.below hW).cells
          obtain ⟨_, _, _, d3, d4, d5, d6, d7, d8, d9⟩ := (f3.below hW).cells
          exact ⟨c0, c1, c2, c3, c4, cell_of_heap ((hW.block _ (Array.getElem?_eq_some_iff.1 f1).1).trans f1) rfl, d3, d4, d5, d6, d7, d8, d9⟩)
      have HBX := Lib.hid (And.intro hT' (And.intro hS (And.intro (hB hnl) (And.intro hz1 (And.intro hT2 (And.intro htl (And.intro hVi (And.intro f2 (And.intro hlo3 hI)))))))))
      clear hext hm hI hT' hS hB hz1 hT2 hwl hnl hlp hno hbW f0 f1 f2 f3 hgt hmem hVi htl hzW hwt hlo3 hwrs
      generalize holdsF s l (withF [] each t) (.mk kind fname fn terms binds fl) = pv at HIV HBX
      refine wpIn_block ?_
      refine wpIn_seq_k (fun KK hKK => ?_)
      refine wpIn_round_held (S := (fun w' : World => w'.cell? ⟨w.heap.size, 0, none⟩ = some (.slice x.slots.a s.slots.length x.slots.cap) ∧ w'.cell? ⟨w.heap.size, 1, none⟩ = some (.slice x.rooms.a s.rooms.length x.rooms.cap) ∧ w'.cell? ⟨w.heap.size, 2, none⟩ = some (.slice x.people.a s.people.length x.people.cap) ∧ w'.cell? ⟨w.heap.size, 3, none⟩ = some (.slice x.groups.a s.groups.length x.groups.cap) ∧ w'.cell? ⟨w.heap.size, 4, none⟩ = some (.slice x.lessons.a s.lessons.length x.lessons.cap) ∧ w'.cell? ⟨w.heap.size + 1, 0, none⟩ = some (.slice y.a l.length y.cap) ∧ w'.cell? ⟨wr.heap.size + 1, 3, none⟩ = some (.slice ye.a each.length ye.cap) ∧ w'.cell? ⟨wr.heap.size + 1, 4, none⟩ = some (.int .i64 kind) ∧ w'.cell? ⟨wr.heap.size + 1, 5, none⟩ = some (.string ⟨fname.toArray⟩) ∧ w'.cell? ⟨wr.heap.size + 1, 6, none⟩ = some (.int .i64 fn) ∧ w'.cell? ⟨wr.heap.size + 1, 7, none⟩ = some (.slice yb.t.a terms.length yb.t.cap) ∧ w'.cell? ⟨wr.heap.size + 1, 8, none⟩ = some (.slice yb.b.a binds.length yb.b.cap) ∧ w'.cell? ⟨wr.heap.size + 1, 9, none⟩ = some (.slice yb.l.a fl.length yb.l.cap))) (by kernel_rfl) (by kernel_rfl) (HKS.out _ (Below.refl _ _).drew) (fun hHeld => ?_)
      refine take_at (i := 0) (dst := some 44) (op := Op.load 28 (Operand.tmp 3)) (ty := 28) (aft := #[]) (gd := none) (v := ?_) rfl (by kernel_rfl) (by kernel_rfl) (by kernel_rfl) plain_put (by rfl) ?_ hHeld ?_
      rotate_left
      · intro w hSw; (try dsimp only at hSw); go_simp; all_goals (with_reducible rfl)
      try simp only [Act.put, List.setIfInBounds_toArray, List.set_cons_zero, List.set_cons_succ]
      refine take_at (i := 1) (dst := some 45) (op := Op.load 31 (Operand.tmp 4)) (ty := 31) (aft := #[]) (gd := none) (v := ?_) rfl (by kernel_rfl) (by kernel_rfl) (by kernel_rfl) plain_put (by rfl) ?_ hHeld ?_
      rotate_left
      · intro w hSw; (try dsimp only at hSw); go_simp; all_goals (with_reducible rfl)
      try simp only [Act.put, List.setIfInBounds_toArray, List.set_cons_zero, List.set_cons_succ]
      refine take_at (i := 2) (dst := some 46) (op := Op.build 95 #[(0, Operand.tmp 44), (1, Operand.tmp 45)]) (ty := 95) (aft := #[{ on := 0, ground := Ground.data }, { on := 1, ground := Ground.data }]) (gd := none) (v := ?_) rfl (by kernel_rfl) (by kernel_rfl) (by kernel_rfl) plain_put (by rfl) ?_ hHeld ?_
      rotate_left
      · intro w hSw; (try dsimp only at hSw); go_simp; all_goals (with_reducible rfl)
      try simp only [Act.put, List.setIfInBounds_toArray, List.set_cons_zero, List.set_cons_succ]
      refine take_at (i := 3) (dst := some 47) (op := Op.fieldAddr 66 (Operand.tmp 13) 3) (ty := 0) (aft := #[]) (gd := none) (v := ?_) rfl (by kernel_rfl) (by kernel_rfl) (by kernel_rfl) plain_put (by rfl) ?_ hHeld ?_
      rotate_left
      · intro w hSw; (try dsimp only at hSw); go_simp; all_goals (with_reducible rfl)
      try simp only [Act.put, List.setIfInBounds_toArray, List.set_cons_zero, List.set_cons_succ]
      refine take_at (i := 4) (dst := some 48) (op := Op.load 34 (Operand.tmp 47)) (ty := 34) (aft := #[{ on := 3, ground := Ground.data }]) (gd := none) (v := ?_) rfl (by kernel_rfl) (by kernel_rfl) (by kernel_rfl) plain_put (by rfl) ?_ hHeld ?_
      rotate_left
      · intro w hSw; (try dsimp only at hSw); go_simp; all_goals (with_reducible rfl)
      try simp only [Act.put, List.setIfInBounds_toArray, List.set_cons_zero, List.set_cons_succ]
      refine take_at (i := 5) (dst := some 49) (op := Op.move (Operand.tmp 14)) (ty := 69) (aft := #[]) (gd := none) (v := ?_) rfl (by kernel_rfl) (by kernel_rfl) (by kernel_rfl) plain_put (by rfl) ?_ hHeld ?_
      rotate_left
      · intro w hSw; (try dsimp only at hSw); go_simp; all_goals (with_reducible rfl)
      try simp only [Act.put, List.setIfInBounds_toArray, List.set_cons_zero, List.set_cons_succ]
      refine take_at (i := 7) (dst := some 51) (op := Op.fieldAddr 66 (Operand.tmp 13) 4) (ty := 0) (aft := #[]) (gd := none) (v := ?_) rfl (by kernel_rfl) (by kernel_rfl) (by kernel_rfl) plain_put (by rfl) ?_ hHeld ?_
      rotate_left
      · intro w hSw; (try dsimp only at hSw); go_simp; all_goals (with_reducible rfl)
      try simp only [Act.put, List.setIfInBounds_toArray, List.set_cons_zero, List.set_cons_succ]
      refine take_at (i := 8) (dst := some 52) (op := Op.load 37 (Operand.tmp 51)) (ty := 37) (aft := #[{ on := 7, ground := Ground.data }]) (gd := none) (v := ?_) rfl (by kernel_rfl) (by kernel_rfl) (by kernel_rfl) plain_put (by rfl) ?_ hHeld ?_
      rotate_left
      · intro w hSw; (try dsimp only at hSw); go_simp; all_goals (with_reducible rfl)
      try simp only [Act.put, List.setIfInBounds_toArray, List.set_cons_zero, List.set_cons_succ]
      refine wpAnyH_ready (rs := [6]) (by kernel_rfl) (by simp) ?_
      refine cons_at (dst := some 50) (op := Op.call { callee := Callee.value (Operand.func 40), args := #[Operand.const (Value.slice none 0 0), Operand.tmp 48, Operand.tmp 49], argTypes := #[32, 34, 69] }) (ty := 32) (aft := #[{ on := 4, ground := Ground.data }, { on := 5, ground := Ground.data }]) (gd := none) rfl (fun K hK => ?_) AllReadyH.nil
      go_simp
      go_at_call 40
      refine (HWT.out).mono ?_
      rintro e w2 ⟨x0, rfl, hx0, hb2⟩
      have HB2 := Lib.hid (And.intro hx0 (Below.trans (Below.drew (Below.refl _ _)) hb2))
      clear hx0 hb2
      go_simp
      refine hK.out _ _ ?_ (fun hHeld2 => ?_)
      · exact HKS.out _ HB2.out.2
      clear hK K hHeld
      have hHeld := hHeld2
      clear hHeld2
      try simp only [Act.put, List.setIfInBounds_toArray, List.set_cons_zero, List.set_cons_succ]
      have HIW := Lib.hid (HIV.out x0 w2 HB2.out.2 HB2.out.1)
      refine wpAnyH_ready (rs := [9]) (by kernel_rfl) (by simp) ?_
      refine cons_at (dst := some 53) (op := Op.call { callee := Callee.value (Operand.func 33), args := #[Operand.tmp 46, Operand.tmp 50, Operand.tmp 52], argTypes := #[95, 32, 37] }) (ty := 4) (aft := #[{ on := 2, ground := Ground.data }, { on := 6, ground := Ground.data }, { on := 8, ground := Ground.data }, { on := 6, ground := Ground.chain }]) (gd := none) rfl (fun K hK => ?_) AllReadyH.nil
      go_simp
      go_at_call 33
      refine HIW.out.mono ?_
      rintro e w7 ⟨rfl, hb3⟩
      have HB3 := Lib.hid (HB2.out.2.trans (hb3.mono HB2.out.2.size))
      clear hb3
      go_simp
      refine hK.out _ _ ?_ (fun hHeld2 => ?_)
      · exact HKS.out _ HB3.out
      clear hK K hHeld
      have hHeld := hHeld2
      clear hHeld2
      try simp only [Act.put, List.setIfInBounds_toArray, List.set_cons_zero, List.set_cons_succ]
      refine take_at (i := 10) (dst := some 54) (op := Op.unOp UnOp.not 4 (Operand.tmp 53)) (ty := 4) (aft := #[{ on := 9, ground := Ground.data }]) (gd := none) (v := ?_) rfl (by kernel_rfl) (by kernel_rfl) (by kernel_rfl) plain_put (by rfl) ?_ hHeld ?_
      rotate_left
      · intro w hSw; (try dsimp only at hSw); go_simp; all_goals (with_reducible rfl)
      try simp only [Act.put, List.setIfInBounds_toArray, List.set_cons_zero, List.set_cons_succ]
      refine wpAnyH_done (by kernel_rfl) ?_ _
      refine ⟨rfl, ?_⟩
      refine hKK _ _ ?_
      clear hKK KK hHeld HWT HIV HIW
      have hw7 := HB3.out.size
      cases pv
      · obtain ⟨v, r, b1, b2, b3, b4, b5⟩ := HBX.out.2.2.1
        obtain ⟨b, cap, rfl⟩ := b5.form
        have hlen : ((xs0 ++ VV i).map instD).length = (xs0 ++ VV i).length := List.length_map ..
        rw [hlen] at b1 b5
        have hbx7 := (HB3.out.block _ (Array.getElem?_eq_some_iff.1 b1).1).trans b1
        have hix7 := (HB3.out.block _ (Array.getElem?_eq_some_iff.1 HBX.out.2.2.2.2.2.2.2.1).1).trans HBX.out.2.2.2.2.2.2.2.1
        have m0 : w7.cell? ⟨w3.heap.size, 0, none⟩ = some (.slice b (xs0 ++ VV i).length cap) := cell_of_heap hbx7 rfl
        have m1 : w7.cell? ⟨wr.heap.size, 0, none⟩ = some (.int .i64 (j : Int)) := cell_of_heap hix7 rfl
        have m2 : w7.frozen? ⟨w3.heap.size, 0, none⟩ = false := frozen_of_heap hbx7
        have m3 := (Array.getElem?_eq_some_iff.1 hbx7).1
        have hsT : ∀ k, T2 k → k < W.heap.size := HBX.out.2.2.2.2.1
        have hz7 : SlIn w7 (fun k => T2 k ∧ k ≠ w3.heap.size ∧ r ≠ some k) (dints (nats t)) z1 := ((HBX.out.2.2.2.1.agree (fun k hk => HB3.out.block k (HBX.out.2.1 k hk).2.2.2)).mono (fun k hk => ⟨(HBX.out.1 k).2 (.inr hk), fun e => (HBX.out.2.1 k hk).1 (e ▸ b2), fun e => (HBX.out.2.1 k hk).1 (b3 k e).1⟩))
        have hd := instD_at (i := j) (by have := HRL.out; omega) hz7
        rw [HBX.out.2.2.2.2.2.1] at hd
        have hv : Chalk.Own w7 (fun k => T2 k ∧ k ≠ w3.heap.size ∧ r ≠ some k) 75 6 (.slice b (xs0 ++ VV i).length cap) r ((xs0 ++ VV i).map instD) := (b5.below HB3.out).widen (fun k hk => ⟨(HBX.out.1 k).2 (.inl hk.1), hk.2⟩) (fun k hk hk' => hk'.2.2 hk) (fun k hk => by have := hsT k hk.1; omega)
        have hTl : ∀ k, T2 k → w3.heap.size ≤ k ∧ k < w7.heap.size := fun k hk => by
          rcases (HBX.out.1 k).1 hk with h | h
          · have := b4 k h; omega
          · have := HBX.out.2.1 k h; omega
        have hll : (xs0 ++ VV i).length ≤ 8192008192 := by
          rw [List.length_append]
          have := HVL.out.1 i
          have := HVL.out.2
          omega
        have HF := Lib.hid (And.intro hbx7 (And.intro ((HBX.out.1 _).2 (.inl b2)) (And.intro (fun k (hk : r = some k) => (⟨(HBX.out.1 k).2 (.inl (b3 k hk).1), (b3 k hk).2⟩ : T2 k ∧ k ≠ w3.heap.size)) (And.intro hTl (And.intro hv (And.intro hd (And.intro hlen hll)))))))
        obtain ⟨i0, hi0, hz0, hz1', hz2⟩ := info_parts infoInst
        clear b1 b2 b3 b4 b5 hbx7 hix7 hsT hz7 hd hv hTl hlen hll
        generalize hnn : (xs0 ++ VV i).length = nn at m0 HF
        refine wpIn_cond_true rfl ?_
        refine wpIn_round_lit (by kernel_rfl) ?_
        go_wp2_with (first | (at_builtin; refine wpList_append_box rfl (H := w3.heap.size) (lo := w3.heap.size) (T := T2) rfl _ _ 59 rfl 75 i0 _ 6 80 Tryz.underlying59 hi0 hz0 hz1' hz2 rfl (by decide) (.slice b nn cap) ((xs0 ++ VV i).map instD) (instD (j, t)) [.int .i64 (j : Int), .slice z1.a each.length z1.cap, .int .i64 0, .int .i64 0, .int .i64 0, .slice none 0 0] 75 59 rfl rfl r HF.out.1 HF.out.2.1 HF.out.2.2.1 HF.out.2.2.2.1 HF.out.2.2.2.2.1 HF.out.2.2.2.2.2.1 (instD_width _) (by rw [HF.out.2.2.2.2.2.2.1]; have := HF.out.2.2.2.2.2.2.2; unfold maxLen; omega) (by rw [HF.out.2.2.2.2.2.2.1]; have := HF.out.2.2.2.2.2.2.2; omega) ?_; rintro ao cp w5 k1 k2 k3 ⟨Tn, n1, n2, n3⟩; rw [HF.out.2.2.2.2.2.2.1] at n1 n2 n3 ⊢; have HE := Lib.hid (And.intro n1 (And.intro n2 n3)); have u0 := frozen_of_heap (i := 0) k1; have u1 : w5.cell? ⟨w3.heap.size, 0, none⟩ = some (.slice b nn cap) := cell_of_heap k1 rfl; have u2 := (Array.getElem?_eq_some_iff.1 k1).1; clear k1 k2 k3 n1 n2 n3))
        refine ⟨rfl, Tn, fun k hk => (HE.out.1 k hk).imp id (fun h => ⟨by omega, h.2⟩), (Chalk.Mod.of_below (S := T2) HB3.out).trans HE.out.2.1 (fun _ _ h => h), ?_⟩
        show BoxOwn _ _ _ _ _ _ (List.map instD (xs0 ++ VV (i + 1))) _
        rw [HBX.out.2.2.2.2.2.2.1, if_neg (by simp), ← List.append_assoc, List.map_append]
        exact HE.out.2.2
      · refine wpIn_cond_false rfl ?_
        refine wpIn_skip ⟨T2, Ext.refl _ _ _, Chalk.Mod.of_below HB3.out, ?_⟩
        show BoxOwn _ _ _ _ _ _ (List.map instD (xs0 ++ VV (i + 1))) _
        rw [HBX.out.2.2.2.2.2.2.1, if_pos rfl, List.append_nil]
        exact HBX.out.2.2.2.2.2.2.2.2.2.kept (Chalk.Mod.of_below (S := fun _ => False) HB3.out) (fun _ h => h.elim)
    case done =>
      intro D0 T' A hD0 hDlt hnD hext hm hI hdd
      have PR := HRR.out.next (xs' := brokenGo s l (rl.take (j + 1)) 0) (H5.out.1.trans (H6.out.mono H5.out.1.size)) hD0 hnD hext hm (by rw [HTK.out]; exact hI) hdd
      have HPR := Lib.hid PR
      have hrl2 := HRL.out
      clear PR hI hdd hext hm hD0 hDlt hnD G
      gi_wp2_with fail
      exact ⟨⟨j + 1, T', D0 :: ds, _, _, _, _, _, _, _, _, _, _, _, by omega, HPR.out, rfl⟩, by simp [intOf]; omega⟩
  · have hjl : j = rl.length := by omega
    have hbo := HRR.out.box
    rw [hjl, List.take_length] at hbo
    obtain ⟨x0, hb0, hx0⟩ := hbo.read (instD_widths _)
    rw [List.length_map] at hb0
    have hlow := hbo.low
    have m0 : wr.cell? ⟨w3.heap.size, 0, none⟩ = some (.slice x0.a (brokenGo s l rl 0).length x0.cap) := cell_of_heap hb0 rfl
    have HX := Lib.hid (And.intro hx0 (And.intro hlow HH.out))
    have e1 : Hid (res = (brokenGo s l rl 0, 0)) := Lib.hid (by rw [HR.out]; simp)
    clear hbo hb0 hx0 hlow hjl HGP HH
    generalize hbn : (brokenGo s l rl 0).length = bn at m0
    gi_wp2_with fail
    refine leaves_marks (v := .tuple #[.slice x0.a bn x0.cap, .int .i64 0]) ds wr (fun w => by simp [results, Tryz.results18, go_sem]) HRR.out.nodup (fun d hd => (HRR.out.marks d hd).1) (fun W' hm' => ?_)
    have hs' := hm'.size
    refine ⟨x0, by rw [e1.out, hbn], ?_, HRR.out.below.trans (hm'.below HRR.out.below.size (fun k hk => by have := (HRR.out.marks k hk).2.2; omega))⟩
    rw [e1.out]
    refine (HX.out.1.agree (hm'.agree (fun k hk => ⟨(HX.out.2.1 k hk).2, fun h => (HRR.out.marks k h).2.1 hk⟩))).mono (fun k hk => ?_)
    · have := HX.out.2.1 k hk
      have := HX.out.2.2
      exact ⟨by omega, by omega⟩
end Go.Proofs.YtlfjjokcbeaekaaGreatDoor
