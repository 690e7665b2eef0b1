/- The reference's (*Maker).literal: it encodes a well-formed tree. -/
import Derived.Test.YtpacnaeckbcpjaaSums
import Derived.Deep.RegionLaw
import Derived.Deep.AppendLies
namespace Go.Proofs.Ytpacnaeckbcpjaa
open Go.RowKit Go.Chalk

theorem lin_info : (Try.prog.info? 40).map (fun i => (i.zero, i.size, i.bytes)) = some (some (.agg #[.slice none 0 0, .slice none 0 0, .int .i64 0]), 3, 56) := by kernel_rfl

/-- sums' answer as the source of an append. -/
def SumsSrc (w : World) (x k : Int) (xs : List Int) (e : Ending) (w3 : World) : Prop :=
  ∃ b3 o3 cap3 n3 cs3, e = .returned (.slice (some ⟨b3, o3, none⟩) n3 cap3) ∧ n3 = (sumsF x k xs).length ∧ cs3.length = n3 * 3 ∧ (∀ j u, cs3[j]? = some u → w3.cell? ((⟨b3, o3, none⟩ : Addr).add j) = some u) ∧ (∀ u ∈ cs3, u.oneCell' = true) ∧ 0 < n3 ∧ n3 ≤ 2 ∧
    DsAt w3 (fun k => w.heap.size ≤ k ∧ k < w3.heap.size) ((sumsF x k xs).map Lin.toD) cs3 ∧ Below w.heap.size w w3
theorem sums_src (x k : Int) (xs : List Int) (v : Value) (w : World) (hx : -9223372036854775807 ≤ x ∧ x ≤ 9223372036854775807) (hlen : xs.length ≤ 1000000)
    (hv : DAt w (· < w.heap.size) (.sl (dints xs)) [v]) (hwf : ∀ y ∈ xs, -9223372036854775807 ≤ y ∧ y ≤ 9223372036854775807) :
    Calls Try.prog 56 #[.int .i64 x, .int .i64 k, v] w.drew (SumsSrc w x k xs) := by
  refine (sums_any x k xs v w.drew hx hlen (DAt.agree (w := w) (w' := w.drew) (F := (· < w.heap.size)) (fun _ _ => rfl) _ _ hv) hwf).mono ?_
  rintro e w3 ⟨u, rfl, hnew, hbw⟩
  have hpos := sumsF_pos x k xs
  have hle := sumsF_length x k xs
  obtain ⟨b3, o3, cap3, cs3, rfl, hs3, hn4, hn5, hb3⟩ := DAt.source hnew (by simpa using hpos)
  have hl := DsAt.length _ _ hs3
  rw [lins_widths] at hl
  rw [List.length_map]
  exact ⟨b3, o3, cap3, _, cs3, rfl, rfl, hl, hn4, hn5, hpos, hle, hs3, hbw.os, hbw.tape, hbw.output, hbw.size, hbw.block⟩

set_option maxRecDepth 100000 in
set_option maxHeartbeats 1000000 in
theorem lit_ref (n : Nat) : ∀ (t : Tr) (x : Value) (N nx : Int) (v : Value) (ls : List Lin) (r : Option Nat) (w : World) (B0 mb : Nat) (G : Nat → Prop), t.size ≤ n → mayB t N = true → N ≤ 65536 → 1 ≤ nx → nx + t.size ≤ 1000000 → ls.length + 2 * t.size ≤ 1000000 →
    TreeV w (· < B0) t x → B0 ≤ w.heap.size → B0 ≤ mb → (∀ k, G k → B0 ≤ k) → MkAt w G mb 62 40 [] v nx ls r →
    Calls Try.prog 32 #[.pointer (some ⟨mb, 0, none⟩), x] w (LitPost w G mb 62 40 [] ls r (.int .i64 (litF t nx).1) (litF t nx).2.1 (litF t nx).2.2) := by
  induction n with
  | zero => intro t _ _ _ _ _ _ _ _ _ _ h; have := size_pos t; omega
  | succ n ih =>
    intro t x N nx v ls r w B0 mb G hn hmay hN hnx hsz hls ht hB0 hmb hG hM
    obtain ⟨kind, tv, k, l⟩ := t
    obtain ⟨a, b, o, cap, rfl, hsl, _, _, _, _, _, hl⟩ := ht.open
    have hbd := litF_bound _ nx N hmay hnx
    rw [mayB, Bool.and_eq_true] at hmay
    obtain ⟨hnode, hall⟩ := hmay
    have hcs := nodeOk_true hnode
    rw [Tr.size] at hn hsz hls
    have hll := length_le_sizes l
    have IH := Lib.hid ih
    have HL := Lib.hid hl
    have HM := Lib.hid hM
    have HA := Lib.hid hall
    have HB := Lib.hid hbd
    clear ih hl ht hM hnode hall hbd
    rw [litF]
    by_cases h2 : kind = 2
    · subst h2
      rw [if_pos rfl]
      clear hcs
      go_enter Try.func32, Try.ntmps32
      go_wp2_with fail
      go_ret
      exact LitPost.same HM.out ((Below.refl _ _).alloc (Nat.le_refl _) _)
    · rw [if_neg h2]
      by_cases h3 : kind = 3
      · subst h3
        rw [if_pos rfl]
        have hl1 : l.length = 1 := by
          rcases hcs with hc | hc | hc | hc | hc | hc | hc <;> first | omega | (have := hc.2.2.2; simp at this; omega)
        clear hcs
        match l, hl1 with
        | [t0], _ =>
          obtain ⟨rfl, hbl⟩ := hsl (by simp)
          obtain ⟨k0, k1, k2, a1, n1, cap1, e0, e1, e2, e3, htj⟩ := TreesIn.at HL.out (Below.refl B0 w) hbl 0 (by simp)
          simp only [Nat.zero_mul, Nat.add_zero] at e0 e1 e2 e3
          have hblt : b < w.heap.size := by omega
          have ha := HA.out
          simp only [mayAll, Bool.and_true] at ha
          have HA1 := Lib.hid ha
          have hb0 := litF_bound t0 nx N ha hnx
          simp only [sizes, List.length_singleton] at hn hsz hls hll
          have hb1 : -9223372036854775807 ≤ (litF t0 nx).1 ∧ (litF t0 nx).1 ≤ 9223372036854775807 := by omega
          have hbw : Below w.heap.size w (w.alloc (.cells #[.int .i64 3, .int .i64 tv, .int .i64 k, .slice (some ⟨b, o, none⟩) 1 cap] 24)) := (Below.refl _ _).alloc (Nat.le_refl _) _
          have HBW := Lib.hid hbw
          clear ha hb0 hbw HB
          simp only [litsF, List.headD_cons, List.append_nil]
          generalize hy : (litF t0 nx).1 = y at hb1 ⊢
          have HY := Lib.hid hy
          clear hy
          go_enter Try.func32, Try.ntmps32
          go_wp2_with fail
          refine (IH.out t0 _ N nx v ls r _ B0 mb G (by omega) HA1.out hN hnx (by omega) (by omega) ((htj.agree (agree_of_below (HBW.out.mono hB0)))) (by simp; omega) hmb hG (HM.out.below HBW.out)).mono ?_
          intro e w' hp
          have hp' := hp
          obtain ⟨rfl, _⟩ := hp'
          rw [HY.out]
          have HP := Lib.hid hp
          clear hp
          go_wp2_with fail
          go_ret
          exact LitPost.ahead HBW.out HP.out
      · rw [if_neg h3]
        have hk2 : (kind == 2) = false := by simpa using h2
        have hk3 : (kind == 3) = false := by simpa using h3
        have HCS := Lib.hid hcs
        clear hcs h2 h3 HB
        obtain ⟨i0, hi, hz0, hz1, hz2⟩ := info_parts sums_info
        go_enter Try.func32, Try.ntmps32
        go_wp2_with fail
        go_loopw [28, 5, 7] (fun i lv _ wr => ∃ (j : Nat) (v' : Value) (r' q : Option Nat), i = .int .i64 j ∧ LitRel w wr G mb 62 40 3 [] ls r (.cells #[.int .i64 kind, .int .i64 tv, .int .i64 k, .slice a l.length cap] 24) l nx j lv v' r' q) (fun i _ _ _ => l.length - (intOf i).toNat)
        case atStart => exact ⟨0, v, r, none, rfl, LitRel.start _ l HM.out⟩
        case round =>
          obtain ⟨j, v', r', q, rfl, R⟩ := hrel
          have hj := R.le
          have hb : Below B0 w wr := R.mod.below hB0 (fun k hk => by rcases hk with rfl | hk; exact hmb; exact hG k (HM.out.row k hk).1)
          have hsize := R.size
          by_cases hlt : j < l.length
          · obtain ⟨rfl, hbl⟩ := hsl (by omega)
            obtain ⟨k0, k1, k2, a1, n1, cap1, e0, e1, e2, e3, htj⟩ := TreesIn.at HL.out hb hbl j hlt
            have hma := mayAll_at HA.out j hlt
            have hs1 := sizes_take_succ l j hlt
            have hs2 := sizes_take_le l (j + 1)
            have hb1 := litsF_bound (l.take j) nx N hma.2 hnx
            have hb2 := litF_bound l[j] (litsF (l.take j) nx).2.2 N hma.1 (by omega)
            have hb3 := litsF_lins (l.take j) nx
            have hb4 := litsF_length (l.take j) nx
            have hb5 : (l.take j).length ≤ l.length := by simp; omega
            have hIH := IH.out l[j] _ N (litsF (l.take j) nx).2.2 v' (ls ++ (litsF (l.take j) nx).2.1) r' (wr.alloc (.cells #[.int .i64 k0, .int .i64 k1, .int .i64 k2, .slice a1 n1 cap1] 24)) B0 mb _ (by omega) hma.1 hN (by omega) (by omega) (by rw [List.length_append]; omega)
              (htj.agree (agree_of_below (hb.alloc (by omega) _))) (by simp; omega) hmb (fun k hk => by rcases hk with h | h; exact hG k h; omega) (R.maker.below ((Below.refl _ _).alloc (Nat.le_refl _) _))
            have HI := Lib.hid hIH
            have HR := Lib.hid R
            have hlen : (litsF (l.take j) nx).1.length ≤ 1000000 := by omega
            have hyb : -9223372036854775808 ≤ (litF l[j] (litsF (l.take j) nx).2.2).1 ∧ (litF l[j] (litsF (l.take j) nx).2.2).1 ≤ 9223372036854775807 := by omega
            clear hIH R hma hs1 hs2 hb1 hb2 hb3 hb4 hb5
            generalize hy : (litF l[j] (litsF (l.take j) nx).2.2).1 = y at hyb
            have HY := Lib.hid hy
            clear hy
            go_wp2_with fail
            refine HI.out.mono ?_
            intro e w2 hp
            have HP := Lib.hid hp
            obtain ⟨rfl, hp⟩ := hp
            clear hp
            rw [HY.out]
            have row := HR.out.row2 (b2 := .cells #[.int .i64 y] 3) HM.out.lt HM.out.inn HP.out
            go_upto_region 11 with (at_builtin; go_must (refine wpList_append_lies _ rfl _ _ 34 rfl 0 3 i0 (.int .i64 0) 1 8 Try.underlying34 hi hz0 hz1 hz2 rfl (by decide) _ _ _ rfl row ⟨w2.heap.size, 0, none⟩ 1 1 [.int .i64 y] rfl rfl (cell_one_new _ _ _) (by simp [Value.oneCell']) (by omega) (by unfold maxLen; omega) (by omega) (Nat.zero_le _) (w2.heap.size + 1) (by simp) ?_); intro g cp wz hown hgrow hat hglt; have HO := Lib.hid hown; have HG := Lib.hid hgrow; have HAT := Lib.hid hat; clear hown hgrow hat)
            go_wp2_with fail
            obtain ⟨v2, r2, R2⟩ := LitRel.step HM.out.lt HM.out.inn (fun k hk => HM.out.inn k (HM.out.row k hk).1) HR.out hlt HP.out (by rw [HY.out]; exact hyb) (by rw [HY.out]; exact HO.out) HG.out HAT.out
            exact ⟨⟨j + 1, v2, r2, some g, by go_num, R2⟩, by simp [intOf]; omega⟩
          · have hjl : j = l.length := by omega
            have htk : l.take j = l := List.take_of_length_le (by omega)
            have hmk := R.maker
            have hli := R.lits
            rw [htk] at hmk hli
            have hb1 := litsF_bound l nx N HA.out hnx
            have hb3 := litsF_lins l nx
            have hb4 := litsF_length l nx
            clear htk
            obtain ⟨q0, q1, q2, q3⟩ := (show wr.cell? ⟨w.heap.size, 0, none⟩ = some (.int .i64 kind) ∧ wr.cell? ⟨w.heap.size, 1, none⟩ = some (.int .i64 tv) ∧ wr.cell? ⟨w.heap.size, 2, none⟩ = some (.int .i64 k) ∧ wr.cell? ⟨w.heap.size, 3, none⟩ = some (.slice a l.length cap) from ⟨cell_of_heap R.box rfl, cell_of_heap R.box rfl, cell_of_heap R.box rfl, cell_of_heap R.box rfl⟩)
            obtain ⟨p0, p1, p2, p3⟩ := hmk.cells
            have hxs : ∀ y ∈ (litsF l nx).1, -9223372036854775807 ≤ y ∧ y ≤ 9223372036854775807 := fun y hy => by have := hb1.2.2 y hy; omega
            have HXS := Lib.hid hxs
            have HN2 := Lib.hid hb4
            have hnx2 : 1 ≤ (litsF l nx).2.2 ∧ (litsF l nx).2.2 ≤ 1000000 := by omega
            have hlen2 : (litsF l nx).1.length ≤ 1000000 := by omega
            have hlins2 : (ls ++ (litsF l nx).2.1).length ≤ 999998 := by rw [List.length_append]; omega
            have HR := Lib.hid R
            have HMK := Lib.hid hmk
            have HLI := Lib.hid hli
            clear R hb1 hb3 hb4 hxs hmk hli hjl hb
            generalize hn2 : (litsF l nx).2.2 = nx2 at *
            generalize hx2 : (litsF l nx).1 = xs at *
            clear hn2 hx2
            obtain ⟨la, lcap, hlv⟩ := HLI.out.form
            rw [dints_length] at hlv
            subst hlv
            rcases HCS.out with ⟨rfl, rfl, rfl, _⟩ | ⟨rfl, rfl, rfl, _⟩ | ⟨rfl, _⟩ | ⟨rfl, _⟩ | ⟨rfl, rfl, rfl⟩ | ⟨rfl, rfl, rfl⟩ | ⟨rfl, rfl, hk1, hk4⟩
            case inr.inr.inl => cases hk2
            case inr.inr.inr.inl => cases hk3
            all_goals
              go_upto_region 22 with (fail)
              have M2 := HMK.out.count (nx2 + 1)
              have L2 : Own (wr.setCell ⟨mb, 1, none⟩ (.int .i64 (nx2 + 1))) (fun _ => False) 3 1 _ q (dints xs) := HLI.out.store _ id (fun e => by have := HR.out.low _ e; have := HM.out.lt; omega)
              have hWs : (wr.setCell ⟨mb, 1, none⟩ (.int .i64 (nx2 + 1))).heap.size = wr.heap.size := by simp [World.setCell]
              have HWM := Lib.hid (show Mod (fun k => k = mb) wr (wr.setCell ⟨mb, 1, none⟩ (.int .i64 (nx2 + 1))) from (Mod.refl (fun k => k = mb) _).setCell (p := ⟨mb, 1, none⟩) (fun _ => rfl) _)
              have HWS := Lib.hid hWs
              clear hWs
              generalize wr.setCell ⟨mb, 1, none⟩ (.int .i64 (nx2 + 1)) = W at M2 L2 HWM HWS ⊢
              clear p0 p1 p2 p3 q0 q1 q2 q3
              obtain ⟨p0, p1, p2, p3⟩ := M2.cells
              obtain ⟨cs2, row2⟩ := M2.ownsRow
              have hd : DAt W (· < W.heap.size) (.sl (dints xs)) [_] := L2.read (G := (· < W.heap.size)) (fun _ h => h.elim) (fun k hk => L2.row_lt hk) (by rw [dints_widths]; simp)
              have HD := Lib.hid hd
              have HM2 := Lib.hid M2
              have HROW := Lib.hid row2
              clear hd M2 row2 L2
              obtain ⟨i1, hi1, hy0, hy1, hy2⟩ := info_parts lin_info
              go_region_law (first | (refine step_append_lies _ (by rfl) _ _ _ (by rfl) 0 40 i1 _ 3 56 Try.underlying27 hi1 hy0 hy1 hy2 rfl (by omega) v' _ cs2 (by rfl) HBX.out.1 ⟨b3, o3, none⟩ n3 cap3 cs3 (by rfl) HSRC.out.2.1 HSRC.out.2.2.1 HSRC.out.2.2.2.1 hn3 (by unfold maxLen; omega) (by omega) (Nat.zero_le _) w3.heap.size rfl ?_; intro g cp wz hown hgrow hat hglt; obtain ⟨hbx, hpush⟩ := (HM2.out.below HBX.out.2.2).push (H := fun k => W.heap.size ≤ k ∧ k < w3.heap.size) (fun k hk => ⟨fun e => by have := HM2.out.inn k e; omega, by have := HM2.out.lt; omega, hk.2⟩) HSRC.out.2.2.2.2 HBX.out.1 (by rw [← HSRC.out.1]; exact hown) hgrow (by rcases hat with h | h; exact .inl h.symm; exact .inr (by rw [h]; rfl)); have z0 := cell_of_heap (i := 0) hbx rfl; have z1 := frozen_of_heap (i := 0) hbx; have HPU := Lib.hid hpush; clear hown hgrow hat hbx hpush) | (go_simp; go_at_call 56; refine (sums_src nx2 _ xs _ _ (by omega) (by omega) HD.out HXS.out).mono ?_; rintro e w3 ⟨b3, o3, cap3, n3, cs3, rfl, g1, g2, g3, g4, hn3, hn3b, g5, g6⟩; have HBX := Lib.hid (And.intro (ownsRow_below HROW.out g6) (And.intro ((g6.cell (p := ⟨mb, 0, none⟩) HM2.out.lt).trans p0) g6)); have HSRC := Lib.hid (And.intro g1 (And.intro g2 (And.intro g3 (And.intro g4 g5)))); have y0 := HBX.out.2.1; clear g1 g2 g3 g4 g5 g6))
              all_goals
                go_wp2_with fail
                go_ret
                have F := LitRel.fin (x := .int .i64 nx2) HM.out.lt HR.out HWM.out HBX.out.2.2 HPU.out.1 HPU.out.2.1 HPU.out.2.2
                have hN2 := HN2.out
                rw [List.length_append] at F
                first | (rw [thrF_10]; exact F) | (rw [thrF_11]; exact F) | (rw [thrF_5]; exact F) | (rw [thrF_6]; exact F) | (rw [thrF_4]; rw [hN2] at F; exact F)

end Go.Proofs.Ytpacnaeckbcpjaa
