/- The reference's All. -/
import Derived.Test.YtpacnaeckbcpjaaInts
import Derived.Test.YtpacnaeckbcpjaaAppend0
namespace Go.Proofs.Ytpacnaeckbcpjaa
open Go.RowKit Go.Chalk

/-- What holds at each round of the reference's All. -/
structure AllRel (w wr : World) (l : List Tr) (next : Int) (j : Nat) (lv ov : Value) (q p : Option Nat) (F : Nat → Prop) (xs : List Int) (ls : List Lin) (nx : Int) : Prop where
  le : j ≤ l.length
  eq : allGo l next [] [] = allGo (l.drop j) nx xs ls
  lo : 1 ≤ nx
  hi : nx ≤ 65537
  nlen : xs.length ≤ j
  nlin : ls.length ≤ 2 * sizes (l.take j)
  lits : Chalk.Own wr (fun _ => False) 3 1 lv q (dints xs)
  outs : Chalk.Own wr F 40 3 ov p (ls.map Lin.toD)
  qF : ∀ k, q = some k → ¬ F k ∧ p ≠ some k ∧ w.heap.size ≤ k
  pF : ∀ k, p = some k → w.heap.size ≤ k
  FF : ∀ k, F k → w.heap.size ≤ k
  below : Below w.heap.size w wr

theorem AllRel.start (w : World) (l : List Tr) (next : Int) (h1 : 1 ≤ next) (h2 : next ≤ 65537) : AllRel w w l next 0 (.slice none 0 0) (.slice none 0 0) none none (fun _ => False) [] [] next :=
  ⟨Nat.zero_le _, rfl, h1, h2, Nat.le_refl _, by simp, Chalk.Own.nil _ _ _ _ (fun _ h => h.elim), Chalk.Own.nil _ _ _ _ (fun _ h => h.elim), (fun _ h => by cases h), (fun _ h => by cases h), (fun _ h => h.elim), Below.refl _ _⟩

/-- The literal is appended. -/
theorem AllRel.lit {w wr w2 w3 : World} {l : List Tr} {next : Int} {j : Nat} {lv ov : Value} {q p : Option Nat} {F : Nat → Prop} {xs : List Int} {ls : List Lin} {nx y : Int} {g cap : Nat} (R : AllRel w wr l next j lv ov q p F xs ls nx) (hb : Below wr.heap.size wr w2) (hy : -9223372036854775808 ≤ y ∧ y ≤ 9223372036854775807)
    (ho : w3.ownsRow 0 3 1 (.slice (some ⟨g, 0, none⟩) (xs.length + 1) cap) (xs.length + 1) (xs.map (Value.int .i64) ++ [.int .i64 y])) (hgr : (w2.alloc (.cells #[.int .i64 y] 3)).grownBy w3 lv.ownBlock) (hat : lv.ownBlock = some g ∨ g = w2.heap.size + 1) :
    Chalk.Own w3 (fun _ => False) 3 1 (.slice (some ⟨g, 0, none⟩) (xs.length + 1) cap) (some g) (dints (xs ++ [y])) ∧ Chalk.Own w3 F 40 3 ov p (ls.map Lin.toD) ∧ (¬ F g ∧ p ≠ some g ∧ w.heap.size ≤ g) ∧ Chalk.Mod (fun k => q = some k) w2 w3 ∧ (g < w2.heap.size → g < wr.heap.size) := by
  have hs := hb.size
  have hs0 := R.below.size
  have o2 := R.lits.below hb
  have p2 := R.outs.below hb
  have hrow : lv.ownBlock = q := R.lits.row
  obtain ⟨o3, md, at3⟩ := (o2.alloc (.cells #[.int .i64 y] 3)).int_appended (ys := [y]) (fun x hx => by simp at hx; subst hx; exact hy) (by simpa using ho) hgr (by rcases hat with h | h; exact .inl h.symm; exact .inr (by simp [Value.ownBlock, h]))
  have md' : Chalk.Mod (fun k => q = some k) w2 w3 := ((Mod.refl _ w2).alloc _).trans md (fun _ _ h => h)
  have hgq : q = some g ∨ g = w2.heap.size + 1 := by rw [← hrow]; exact hat
  refine ⟨by simpa [Value.ownBlock] using o3, p2.kept md' (fun k hk e => (R.qF k e).1 hk) (fun k hk e => (R.qF k e).2.1 hk), ?_, md', fun hg => ?_⟩
  · rcases hgq with h | h
    · exact R.qF g h
    · exact ⟨fun e => by have := R.outs.lt g e; omega, fun e => by have := R.outs.row_lt e; omega, by omega⟩
  · rcases hgq with h | h
    · exact R.lits.row_lt h
    · omega

/-- Both slices have grown. -/
theorem AllRel.next {w wr w2 w3 w4 : World} {l : List Tr} {next : Int} {j : Nat} {lv ov lv' ov' : Value} {q p p' : Option Nat} {F : Nat → Prop} {xs : List Int} {ls new : List Lin} {nx nx' y : Int} {g : Nat} (R : AllRel w wr l next j lv ov q p F xs ls nx) (hj : j < l.length)
    (hg : gatesF l[j] nx = (y, new, nx', 0)) (h1 : nx ≤ nx') (h2 : nx' ≤ 65537) (hnew : new.length ≤ 2 * (l[j]).size) (hb : Below wr.heap.size wr w2) (hlt : wr.heap.size < w2.heap.size)
    (md3 : Chalk.Mod (fun k => q = some k) w2 w3) (hgw : ¬ F g ∧ p ≠ some g ∧ w.heap.size ≤ g) (hg2 : g < w2.heap.size → g < wr.heap.size) (o3 : Chalk.Own w3 (fun _ => False) 3 1 lv' (some g) (dints (xs ++ [y])))
    (o4 : Chalk.Own w4 (fun k => F k ∨ (wr.heap.size < k ∧ k < w2.heap.size)) 40 3 ov' p' ((ls ++ new).map Lin.toD)) (md4 : Chalk.Mod (fun k => p = some k) w3 w4) (hp' : p' = p ∨ ∃ k, p' = some k ∧ w3.heap.size ≤ k) :
    AllRel w w4 l next (j + 1) lv' ov' (some g) p' (fun k => F k ∨ (wr.heap.size < k ∧ k < w2.heap.size)) (xs ++ [y]) (ls ++ new) nx' := by
  have hs0 := R.below.size
  have hs1 := hb.size
  have hs3 := md3.size
  have hs4 := md4.size
  have hst : sizes (l.take (j + 1)) = sizes (l.take j) + (l[j]).size := sizes_take_succ l j hj
  have hn1 := R.nlen
  have hn2 := R.nlin
  have hlo := R.lo
  have hgl := o3.row_lt rfl
  refine ⟨by omega, R.eq.trans (allGo_next hj hg rfl), by omega, h2, by simp; omega, by simp; omega, o3.kept md4 (fun _ h => h.elim) (fun k hk e => by cases hk; exact hgw.2.1 e), o4, fun k hk => ?_, fun k hk => ?_, fun k hk => ?_, ?_⟩
  · cases hk
    refine ⟨fun h => ?_, fun h => ?_, hgw.2.2⟩
    · rcases h with h | h
      · exact hgw.1 h
      · have := hg2 h.2; omega
    · rcases hp' with e | ⟨k, e, hk⟩
      · exact hgw.2.1 (e ▸ h)
      · rw [e] at h; simp at h; omega
  · rcases hp' with e | ⟨k', e, hk'⟩
    · exact R.pF k (e ▸ hk)
    · rw [e] at hk; simp at hk; omega
  · rcases hk with h | h
    · exact R.FF k h
    · omega
  · have b3 : Below w.heap.size w2 w3 := md3.below (by omega) (fun k hk => (R.qF k hk).2.2)
    have b4 : Below w.heap.size w3 w4 := md4.below (by omega) (fun k hk => R.pF k hk)
    exact ((R.below.trans (hb.mono hs0)).trans b3).trans b4

/-- The source of the second append. -/
theorem AllRel.src {w wr w2 w3 : World} {l : List Tr} {next : Int} {j : Nat} {lv ov : Value} {q p : Option Nat} {F : Nat → Prop} {xs : List Int} {ls new : List Lin} {nx : Int} {gv : Value} {bx : Obj} (R : AllRel w wr l next j lv ov q p F xs ls nx) (hN : NewAt (wr.alloc bx) w2 (.sl (new.map Lin.toD)) [gv]) (md3 : Chalk.Mod (fun k => q = some k) w2 w3) :
    DAt w3 (fun k => wr.heap.size < k ∧ k < w2.heap.size) (.sl (new.map Lin.toD)) [gv] := by
  refine DAt.agree (md3.agree (fun k hk => ⟨hk.2, fun e => by have := R.lits.row_lt e; omega⟩)) _ _ (DAt.mono (fun k hk => ?_) _ _ hN)
  have := hk.1
  simp at this
  exact ⟨by omega, hk.2⟩

set_option maxRecDepth 100000 in
set_option maxHeartbeats 1000000 in
theorem all_ref_loop (l : List Tr) (next : Int) (a : Option Addr) (b o cap : Nat) (w : World) (hl : TreesIn w (· < w.heap.size) l b o) (hsl : SlAt (· < w.heap.size) a b o l.length) (hsz : sizes l ≤ 200000) (h1 : 1 ≤ next) (h2 : next ≤ 65537) :
    Calls Try.prog 17 #[.slice a l.length cap, .int .i64 next] w (AllPost w (allGo l next [] [])) := by
  have hll := length_le_sizes l
  have HL := Lib.hid hl
  clear hl
  obtain ⟨i0, hi, hz0, hz1, hz2⟩ := info_parts sums_info
  obtain ⟨i1, hi1, hy0, hy1, hy2⟩ := info_parts put_info
  have h1' : decide (next < 1) = false := by simp; omega
  have h2' : decide (65537 < next) = false := by simp; omega
  go_enter Try.func17, Try.ntmps17
  go_wp2_with fail
  go_loopw [24, 1, 8, 9, 11, 12, 13, 14, 15] (fun i nv lv ov _ _ _ _ _ wr => ∃ (j : Nat) (q p : Option Nat) (F : Nat → Prop) (xs : List Int) (ls : List Lin) (nx : Int), i = .int .i64 j ∧ nv = .int .i64 nx ∧ AllRel w wr l next j lv ov q p F xs ls nx) (fun i _ _ _ _ _ _ _ _ _ => l.length - (intOf i).toNat)
  case atStart => exact ⟨0, none, none, _, [], [], next, rfl, rfl, AllRel.start w l next h1 h2⟩
  case round =>
    obtain ⟨j, q, p, F, xs, ls, nx, rfl, rfl, R⟩ := hrel
    have hj := R.le
    have hnx1 := R.lo
    have hnx2 := R.hi
    have hbs := R.below.size
    obtain ⟨la, lcap, hlv⟩ := R.lits.form
    rw [dints_length] at hlv
    obtain ⟨oa, ocap, hov⟩ := R.outs.form
    rw [List.length_map] at hov
    subst hlv hov
    by_cases hlt : j < l.length
    · obtain ⟨rfl, hbl⟩ := hsl (by omega)
      obtain ⟨k0, k1, k2, a1, n1, cap1, e0, e1, e2, e3, htj⟩ := TreesIn.at HL.out R.below hbl j hlt
      have hts : (l[j]).size ≤ 2000000 := by have := size_le_sizes l j hlt; omega
      have HTV := Lib.hid (htj.later (R.below.alloc hbs (.cells #[.int .i64 k0, .int .i64 k1, .int .i64 k2, .slice a1 n1 cap1] 24)) (by simp; omega))
      have HR := Lib.hid R
      clear R htj
      go_wp2_with fail
      refine (gates_ref l[j] _ nx _ hts HTV.out).mono ?_
      rintro e w2 ⟨gv, rfl, hN, hb2⟩
      have HB2 := Lib.hid (Below.ahead hb2 (by simp))
      have hs2 : wr.heap.size < w2.heap.size := by have := hb2.size; simp at this; omega
      have HN := Lib.hid hN
      clear hb2 hN HTV e0 e1 e2 e3
      have HG := Lib.hid (gatesF_cases l[j] nx hnx1 hnx2)
      by_cases herr : (gatesF l[j] nx).2.2.2 = 0
      · obtain ⟨hov, hgt, hmay⟩ : (litF l[j] nx).2.2 ≤ 65537 ∧ gatesF l[j] nx = ((litF l[j] nx).1, (litF l[j] nx).2.1, (litF l[j] nx).2.2, 0) ∧ mayB l[j] (nx - 1) = true := by
          rcases HG.out with ⟨hc, hg⟩ | ⟨hc, hw, hg⟩ | ⟨hc, hw, hov, hg⟩ | ⟨hc, hw, hov, hg⟩
          · rw [hg] at herr; exact absurd herr hc
          · rw [hg] at herr; exact absurd herr (by decide)
          · rw [hg] at herr; exact absurd herr (by decide)
          · exact ⟨hov, hg, (checkE_ok hc).2.2.1⟩
        have hbd := litF_bound l[j] nx (nx - 1) hmay hnx1
        have hnl := litF_lins l[j] nx
        have hyb : -9223372036854775808 ≤ (litF l[j] nx).1 ∧ (litF l[j] nx).1 ≤ 9223372036854775807 := by omega
        have hxl : xs.length ≤ 200000 := by have := HR.out.nlen; omega
        have hll2 : ls.length + (litF l[j] nx).2.1.length ≤ 1000000 := by have := HR.out.nlin; have := sizes_take_le l j; have := size_le_sizes l j hlt; omega
        have HGT := Lib.hid hgt
        have HN' := HN.out
        rw [hgt] at HN' ⊢
        have HNN := Lib.hid HN'
        have HBD := Lib.hid hbd.1
        have HOV := Lib.hid hov
        have HNL := Lib.hid hnl
        clear HN' HN HG herr hgt hbd hmay hov hnl
        generalize hY : (litF l[j] nx).1 = y at *
        generalize hNW : (litF l[j] nx).2.1 = new at *
        generalize hNX : (litF l[j] nx).2.2 = nx' at *
        clear hY hNW hNX
        obtain ⟨ga, gcap, hgv⟩ : ∃ a cap, gv = .slice a new.length cap := by
          have h := HNN.out
          rw [NewAt, DAt] at h
          obtain ⟨a, _, _, cap, h, _⟩ := h
          simp at h
          exact ⟨a, cap, h⟩
        subst hgv
        have hz : ((0 : Int) != 0) = false := rfl
        have row := ((HR.out.lits.below HB2.out).alloc (.cells #[.int .i64 y] 3)).int_cells.1
        go_upto_region 12 with (at_builtin; go_must (refine wpList_append_lies _ rfl _ _ 34 rfl 0 3 i0 (.int .i64 0) 1 8 Try.underlying34 hi hz0 hz1 hz2 rfl (by decide) _ _ _ rfl row ⟨w2.heap.size, 0, none⟩ 1 1 [.int .i64 y] rfl rfl (cell_one_new _ _ _) (by simp [Value.oneCell']) (by omega) (by unfold maxLen; omega) (by omega) (Nat.zero_le _) (w2.heap.size + 1) (by simp) ?_); intro g cp w3 hown hgrow hat hglt; have HO := Lib.hid hown; have HGR := Lib.hid hgrow; have HAT := Lib.hid hat; clear hown hgrow hat)
        obtain ⟨o3, p3, hgw, md3, hg2⟩ := HR.out.lit HB2.out hyb HO.out HGR.out HAT.out
        have HO3 := Lib.hid o3
        have HP3 := Lib.hid p3
        have HGW := Lib.hid hgw
        have HMD3 := Lib.hid md3
        have HG2 := Lib.hid hg2
        have HSRC := Lib.hid (HR.out.src HNN.out md3)
        clear o3 p3 hgw md3 hg2 HO HGR HAT row
        have hwide := HP3.out.widen (G := fun k => F k ∨ (wr.heap.size < k ∧ k < w2.heap.size)) (fun k hk => .inl hk) (fun k hk h => by
          rcases h with h | h
          · exact HP3.out.off k hk h
          · have := HR.out.outs.row_lt hk; omega) (fun k hk => by
          have := HMD3.out.size
          rcases hk with h | h
          · exact HP3.out.lt k h
          · omega)
        have HWD := Lib.hid hwide
        clear hwide
        by_cases hm0 : new.length = 0
        · have hnil : new = [] := List.length_eq_zero_iff.1 hm0
          subst hnil
          clear hm0
          have hoc : ls.length ≤ ocap := by
            obtain ⟨cs, hrow, _⟩ := HP3.out.cells
            rcases hrow.2 with ⟨e, hn⟩ | ⟨g', cap', cur, e, _, _, hc, _⟩
            · simp at e hn; simp [hn]
            · simp at e hc; omega
          go_wp2_with (at_builtin; go_must (refine wpList_append_none _ rfl _ _ 27 rfl 40 i1 Try.underlying27 hi1 oa ga ls.length ocap gcap hoc rfl rfl ?_))
          have RN := HR.out.next (w4 := w3) (ov' := .slice oa ls.length ocap) (p' := p) hlt HGT.out HBD.out HOV.out HNL.out HB2.out hs2 HMD3.out HGW.out HG2.out HO3.out (by rw [List.append_nil]; exact HWD.out) (Mod.refl _ _) (.inl rfl)
          exact ⟨⟨j + 1, some g, p, _, _, _, nx', by go_num, rfl, RN⟩, by simp [intOf]; omega⟩
        · obtain ⟨b5, o5, cap5, cs5, hv5, hds, hc5, hone, _⟩ := HSRC.out.source (by simp; omega)
          simp at hv5
          obtain ⟨rfl, rfl⟩ := hv5
          have hlen5 := DsAt.length _ _ hds
          rw [lins_widths] at hlen5
          obtain ⟨cs0, hrow0, hds0⟩ := HWD.out.cells
          rw [List.length_map] at hrow0
          have HDS := Lib.hid hds
          have HC5 := Lib.hid hc5
          have HONE := Lib.hid hone
          have HL5 := Lib.hid hlen5
          have HDS0 := Lib.hid hds0
          have hpos : 0 < new.length := by omega
          clear hds hc5 hone hlen5 hds0 hm0
          go_wp2_with (at_builtin; go_must (refine wpList_append_lies _ rfl _ _ 27 rfl 0 40 i1 _ 3 56 Try.underlying27 hi1 hy0 hy1 hy2 rfl (by decide) (.slice oa ls.length ocap) _ _ rfl hrow0 ⟨b5, o5, none⟩ new.length gcap cs5 rfl HL5.out HC5.out HONE.out hpos (by unfold maxLen; omega) (by omega) (Nat.zero_le _) w3.heap.size rfl ?_); intro g5 cp5 w4 hown hgrow hat hglt5; have HO := Lib.hid hown; have HGR := Lib.hid hgrow; have HAT := Lib.hid hat; clear hown hgrow hat)
          obtain ⟨g1, g2, g3⟩ := HWD.out.appended (ys := new.map Lin.toD) HDS0.out (by simpa using HO.out) HGR.out (by rcases HAT.out with h | h; exact .inl h.symm; exact .inr (by rw [h]; rfl)) (DsAt.mono (fun k hk => .inr hk) _ _ HDS.out)
          have RN := HR.out.next (w4 := w4) (ov' := .slice (some ⟨g5, 0, none⟩) (ls.length + new.length) cp5) (p' := some g5) hlt HGT.out HBD.out HOV.out HNL.out HB2.out hs2 HMD3.out HGW.out HG2.out HO3.out (by rw [List.map_append]; exact (by simpa [Value.ownBlock] using g1)) g2 (by
            rcases g3 with h | h
            · exact .inl (by simpa [Value.ownBlock] using h)
            · exact .inr ⟨g5, rfl, by simp [Value.ownBlock] at h; omega⟩)
          exact ⟨⟨j + 1, some g, some g5, _, _, _, nx', by go_num, rfl, RN⟩, by simp [intOf]; omega⟩
      · have HRES : Hid (allGo l next [] [] = ([], [], 0, (gatesF l[j] nx).2.2.2)) := HR.out.eq.trans (allGo_stop hlt rfl herr)
        have hne : ((gatesF l[j] nx).2.2.2 != 0) = true := by simpa using herr
        generalize hec : (gatesF l[j] nx).2.2.2 = ec at *
        generalize (gatesF l[j] nx).1 = y1 at *
        generalize (gatesF l[j] nx).2.2.1 = y2 at *
        clear hec herr
        go_wp2_with fail
        refine bodyPost_ret (v := .tuple #[.slice none 0 0, .slice none 0 0, .int .i64 0, .int .i64 ec]) (by simp [results, Try.results17, go_sem]) rfl ?_
        rw [HRES.out]
        exact ⟨_, _, rfl, new_nil _ _, new_nil _ _, HR.out.below.trans (HB2.out.mono hbs)⟩
    · obtain rfl : j = l.length := by omega
      have heq := R.eq
      rw [List.drop_of_length_le (Nat.le_refl _), allGo] at heq
      have HEQ := Lib.hid heq
      have HR := Lib.hid R
      clear heq R
      go_wp2_with fail
      refine bodyPost_ret (v := .tuple #[.slice la xs.length lcap, .slice oa ls.length ocap, .int .i64 nx, .int .i64 0]) (by simp [results, Try.results17, go_sem]) rfl ?_
      rw [HEQ.out]
      exact ⟨_, _, rfl, HR.out.lits.read (fun _ h => h.elim) (fun k hk => ⟨(HR.out.qF k hk).2.2, HR.out.lits.row_lt hk⟩) (by rw [dints_widths]; simp), HR.out.outs.read (fun k hk => ⟨HR.out.FF k hk, HR.out.outs.lt k hk⟩) (fun k hk => ⟨HR.out.pF k hk, HR.out.outs.row_lt hk⟩) (by rw [lins_widths, List.length_map]), HR.out.below⟩

set_option maxRecDepth 100000 in
set_option maxHeartbeats 400000 in
theorem all_ref_arg (l : List Tr) (next : Int) (a : Option Addr) (cap : Nat) (w : World) (h0 : next < 1 ∨ 65537 < next) : Calls Try.prog 17 #[.slice a l.length cap, .int .i64 next] w (AllPost w ([], [], 0, 1)) := by
  rcases h0 with h0 | h0
  · go_enter Try.func17, Try.ntmps17
    go_wp2_with fail
    refine bodyPost_ret (v := .tuple #[.slice none 0 0, .slice none 0 0, .int .i64 0, .int .i64 1]) (by simp [results, Try.results17, go_sem]) rfl ?_
    exact ⟨_, _, rfl, new_nil _ _, new_nil _ _, Below.refl _ _⟩
  · have h0' : decide (next < 1) = false := by simp; omega
    go_enter Try.func17, Try.ntmps17
    go_wp2_with fail
    refine bodyPost_ret (v := .tuple #[.slice none 0 0, .slice none 0 0, .int .i64 0, .int .i64 1]) (by simp [results, Try.results17, go_sem]) rfl ?_
    exact ⟨_, _, rfl, new_nil _ _, new_nil _ _, Below.refl _ _⟩

theorem all_ref (l : List Tr) (next : Int) (x : Value) (w : World) (hd : DAt w (· < w.heap.size) (.sl (l.map Tr.toD)) [x]) (hsz : sizes l ≤ 200000) :
    Calls Try.prog 17 #[x, .int .i64 next] w (AllPost w (allF l next)) := by
  obtain ⟨a, b, o, cap, he, h1, h2, h3, h4⟩ := Tr.open_slice hd
  simp only [List.cons.injEq, and_true] at he
  subst he
  unfold allF
  by_cases h0 : next < 1 ∨ 65537 < next
  · rw [if_pos h0]; exact all_ref_arg l next a cap w h0
  · rw [if_neg h0]; exact all_ref_loop l next a b o cap w h4 h1 hsz (by omega) (by omega)

end Go.Proofs.Ytpacnaeckbcpjaa
