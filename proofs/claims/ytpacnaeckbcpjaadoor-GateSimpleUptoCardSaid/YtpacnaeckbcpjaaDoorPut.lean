/- gate's (*maker).put. -/
import Derived.Test.YtpacnaeckbcpjaaDoorSide
import Derived.Test.YtpacnaeckbcpjaaDoorTwo
import Derived.Deep.CutRange
import Derived.Outline
namespace Go.Proofs.YtpacnaeckbcpjaaDoor
open Go.RowKit Go.Chalk

theorem put_info : (Tryd.prog.info? 42).map (fun i => (i.zero, i.size, i.bytes)) = some (some (.agg #[.slice none 0 0, .slice none 0 0, .int .i64 0]), 3, 56) := by kernel_rfl
theorem put_fin {w wr : World} {G : Nat → Prop} {mb A : Nat} {tm tl ti : TypeId} {ex : List Value} {v v1 v2 x : Value} {nx least : Int} {lins : List Lin} {r : Option Nat} {r1 r2 : Nat} {C Ls : List Int} (M : MkAt w G mb tm tl ex v nx lins r) (hb : Below w.heap.size w wr) (L : LinBox wr A tl ti v1 v2 r1 r2 C Ls least) (hr1 : w.heap.size ≤ r1) (hr2 : w.heap.size ≤ r2)
    (hl : -9223372036854775808 ≤ least ∧ least ≤ 9223372036854775807) :
    ∃ cs, ((wr.alloc (.cells #[v1, v2, .int .i64 least] tl)).drew).ownsRow 0 tl 3 v lins.length cs ∧
      ∀ g cap w1, w1.ownsRow 0 tl 3 (.slice (some ⟨g, 0, none⟩) (lins.length + 1) cap) (lins.length + 1) (cs ++ [v1, v2, .int .i64 least]) → ((wr.alloc (.cells #[v1, v2, .int .i64 least] tl)).drew).grownBy w1 v.ownBlock → (v.ownBlock = some g ∨ g = wr.heap.size + 1) →
        (w1.cell? ⟨mb, 0, none⟩ = some v ∧ w1.frozen? ⟨mb, 0, none⟩ = false) ∧ LitPost w G mb tm tl ex lins r x [⟨C, Ls, least⟩] nx (.returned x) (w1.setCell ⟨mb, 0, none⟩ (.slice (some ⟨g, 0, none⟩) (lins.length + 1) cap)) := by
  have hba : Below wr.heap.size wr ((wr.alloc (.cells #[v1, v2, .int .i64 least] tl)).drew) := by
    have h := (Below.refl wr.heap.size wr).alloc (Nat.le_refl _) (.cells #[v1, v2, .int .i64 least] tl)
    exact ⟨h.os, h.tape, h.output, h.size, h.block⟩
  have hsW : ((wr.alloc (.cells #[v1, v2, .int .i64 least] tl)).drew).heap.size = wr.heap.size + 1 := by show (wr.alloc _).heap.size = _; simp
  generalize hW : (wr.alloc (.cells #[v1, v2, .int .i64 least] tl)).drew = W at *
  clear hW
  have hs := hb.size
  have hLt := L.lt
  have hbW : Below w.heap.size w W := hb.trans (hba.mono hs)
  have MW := M.below hbW
  have LW : LinBox W A tl ti v1 v2 r1 r2 C Ls least := L.kept (S := fun _ => False) (Mod.of_below hba) id id id
  obtain ⟨cs, hrow⟩ := MW.ownsRow
  refine ⟨cs, hrow, fun g cap w1 hown hgrow hat => ?_⟩
  have hn := LW.read (G := fun k => k = r1 ∨ k = r2) (.inl rfl) (.inr rfl) hl
  obtain ⟨hbox, hM, hf, hmod⟩ := MW.push (H := fun k => k = r1 ∨ k = r2) (new := [⟨C, Ls, least⟩]) (fun k hk => by
    have hmb := M.lt
    have hG : ∀ k, G k → k < w.heap.size := M.inn
    refine ⟨fun hg => ?_, ?_, ?_⟩
    · have := hG k hg; omega
    · omega
    · omega) hn hrow hown hgrow (by rcases hat with h | h; exact .inl h.symm; exact .inr (by rw [h, hsW]; rfl))
  refine ⟨⟨cell_of_heap hbox rfl, frozen_of_heap hbox⟩, rfl, _, _, hM.mono (fun k hk => ?_) (fun k hk => ?_), ?_, ?_⟩
  · have hin := hM.inn k hk
    rcases hk with h | h | h
    · exact .inl h
    · exact .inr ⟨by omega, hin⟩
    · exact .inr ⟨by omega, hin⟩
  · rcases hk with h | h
    · exact hM.inn k (.inl h)
    · exact h.2
  · rcases hf with h | h
    · exact .inl h
    · exact .inr ⟨_, h, by omega⟩
  · exact (Mod.of_below (S := fun k => k = mb ∨ r = some k) hbW).trans hmod (fun _ _ h => h)

set_option maxRecDepth 100000 in
set_option maxHeartbeats 400000 in
theorem put_loop (mb : Nat) (x c least nx : Int) (ls : List Int) (lins : List Lin) (r : Option Nat) (ex : List Value) (v : Value) (G : Nat → Prop) (a : Option Addr) (b o cap : Nat) (w : World) (hlins : lins.length ≤ 4000000) (M : MkAt w G mb 55 42 ex v nx lins r) (hle : -9223372036854775808 ≤ least ∧ least ≤ 9223372036854775807) (hx : -9223372036854775808 ≤ x ∧ x ≤ 9223372036854775807) (hc : -9223372036854775808 ≤ c ∧ c ≤ 9223372036854775807) (hlen : ls.length ≤ 1000000)
    (hsl : SlAt (· < w.heap.size) a b o ls.length) (hcell : ∀ (i : Nat) (h : i < ls.length), w.cell? ⟨b, o + i, none⟩ = some (.int .i64 ls[i])) (hwf : ∀ y ∈ ls, -9223372036854775808 ≤ y ∧ y ≤ 9223372036854775807) (R : Ending → World → Prop)
    (hR : ∀ e w', LitPost w G mb 55 42 ex lins r (.tuple #[]) [⟨c :: ls.map (fun _ => 1), x :: ls, least⟩] nx e w' → R e w') :
    Calls Tryd.prog 44 #[.pointer (some ⟨mb, 0, none⟩), .int .i64 x, .int .i64 c, .slice a ls.length cap, .int .i64 least] w R := by
  obtain ⟨i0, hi, hz0, hz1, hz2⟩ := info_parts sums_info
  have HC := Lib.hid hcell
  have HW := Lib.hid hwf
  have HMK := Lib.hid M
  have HR := Lib.hid hR
  clear hcell hwf M hR
  go_enter Tryd.func44, Tryd.ntmps44
  go_wp2_with fail
  go_loopw [21, 12] (fun i _ wr => ∃ (j : Nat) (v1 v2 : Value) (r1 r2 : Nat), i = .int .i64 j ∧ j ≤ ls.length ∧ LinBox wr (w.heap.size + 1 + 1) 42 3 v1 v2 r1 r2 (c :: (ls.take j).map (fun _ => 1)) (x :: ls.take j) least ∧ Below w.heap.size w wr ∧ w.heap.size ≤ r1 ∧ w.heap.size ≤ r2) (fun i _ _ => ls.length - (intOf i).toNat)
  case atStart =>
    have L := linbox_new w x c least hx hc
    exact ⟨0, _, _, _, _, rfl, Nat.zero_le _, by simpa using L, (((Below.refl _ _).alloc (Nat.le_refl _) _).alloc (by simp) _).alloc (by simp; omega) _, by omega, by omega⟩
  case round =>
    obtain ⟨j, v1, v2, r1, r2, rfl, hj, L, hb, hr1, hr2⟩ := hrel
    by_cases hlt : j < ls.length
    · obtain ⟨rfl, hbl⟩ := hsl (by omega)
      have hcj := (hb.cell (p := ⟨b, o + j, none⟩) hbl).trans (HC.out j hlt)
      have hyj := HW.out ls[j] (List.getElem_mem hlt)
      obtain ⟨q0, q1, q2, q3, q4⟩ := L.cells
      have hlt1 := L.lt
      generalize hc1 : (c :: (ls.take j).map (fun _ => (1 : Int))) = c1 at L
      generalize hl1 : (x :: ls.take j) = l1 at L
      have n1 : c1.length ≤ 1000001 := by rw [← hc1]; simp; omega
      have n2 : l1.length ≤ 1000001 := by rw [← hl1]; simp; omega
      have HE := Lib.hid (And.intro hc1 hl1)
      have HL := Lib.hid L
      clear hc1 hl1 L
      obtain ⟨hA, hr1l, hr2l⟩ := hlt1
      generalize hy : ls[j] = y at hcj hyj
      have HY := Lib.hid hy
      clear hy
      go_upto_region 4 with (fail)
      refine two_region (A := w.heap.size + 1 + 1) (y := y) rfl ⟨_, rfl⟩ ⟨_, rfl⟩ ⟨_, rfl⟩ ⟨_, rfl⟩ ⟨_, rfl⟩ ⟨_, rfl⟩ ⟨_, rfl⟩ ⟨_, rfl⟩ ⟨_, rfl⟩ ⟨_, rfl⟩ ⟨_, rfl⟩ ⟨_, rfl⟩ ⟨_, rfl⟩ rfl rfl rfl hyj HL.out n1 n2 ?_
      intro x25 x26 x27 x28 x29 x30 x31 x32 x33 x34 x35 w' u1 u2 s1 s2 L2 hM hf1 hf2
      simp only [List.setIfInBounds_toArray, List.set_cons_zero, List.set_cons_succ]
      have hbn : Below w.heap.size w w' := hb.trans (hM.below hb.size (fun k hk => by omega))
      have hN : LinBox w' (w.heap.size + 1 + 1) 42 3 u1 u2 s1 s2 (c :: (ls.take (j + 1)).map (fun _ => 1)) (x :: ls.take (j + 1)) least := by
        rw [List.take_succ_eq_append_getElem hlt, List.map_append, HY.out]
        obtain ⟨e1, e2⟩ := HE.out
        rw [← e1, ← e2] at L2
        exact L2
      have g1 : w.heap.size ≤ s1 := by have := hb.size; omega
      have g2 : w.heap.size ≤ s2 := by have := hb.size; omega
      have HBN := Lib.hid hbn
      have HN := Lib.hid hN
      clear hM L2 hbn hN hf1 hf2 HL HE HY hcj q0 q1 q2 q3 q4 n1 n2 hyj hb hA hr1l hr2l
      go_wp2_with fail
      go_roundw
      case rel => exact ⟨j + 1, u1, u2, s1, s2, by go_num, by omega, HN.out, HBN.out, g1, g2⟩
      case measure => simp [intOf]; omega
    · obtain rfl : j = ls.length := by omega
      rw [List.take_of_length_le (Nat.le_refl _)] at L
      obtain ⟨q0, q1, q2, q3, q4⟩ := L.cells
      obtain ⟨p0, p1, p2, p3⟩ := (HMK.out.below hb).cells
      obtain ⟨cs, hrow, hfin⟩ := put_fin (x := .tuple #[]) HMK.out hb L hr1 hr2 hle
      have HROW := Lib.hid hrow
      have HFIN := Lib.hid hfin
      obtain ⟨a1, n1, cap1, hv1⟩ : ∃ a n cap, v1 = .slice a n cap := by obtain ⟨a, cap, h⟩ := L.o1.form; exact ⟨a, _, cap, h⟩
      obtain ⟨a2, n2, cap2, hv2⟩ : ∃ a n cap, v2 = .slice a n cap := by obtain ⟨a, cap, h⟩ := L.o2.form; exact ⟨a, _, cap, h⟩
      obtain ⟨a3, n3, cap3, hv3⟩ : ∃ a n cap, v = .slice a n cap := by
        obtain ⟨_, ⟨F, o, _⟩, _, _⟩ := HMK.out
        obtain ⟨a, cap, h⟩ := o.form; exact ⟨a, _, cap, h⟩
      subst hv1 hv2 hv3
      have hmbl : mb < wr.heap.size := Nat.lt_of_lt_of_le HMK.out.lt hb.size
      obtain ⟨i1, hi1, hy0, hy1, hy2⟩ := info_parts put_info
      clear hrow hfin L hb
      go_wp2_with fail
      go_region_law (first | (refine step_append_lies _ (by rfl) _ _ _ (by rfl) 0 42 i1 _ 3 56 Tryd.underlying28 hi1 hy0 hy1 hy2 rfl (by omega) _ _ cs (by rfl) HROW.out ⟨wr.heap.size, 0, none⟩ 1 1 [.slice a1 n1 cap1, .slice a2 n2 cap2, .int .i64 least] (by rfl) (by rfl) (World.news_of_block (heap_alloc_new wr _)) (by simp [Value.oneCell']) (by omega) (by unfold maxLen; omega) (by omega) (Nat.zero_le _) (wr.heap.size + 1) (by simp) ?_; intro g cp wz hown hgrow hat hglt; obtain ⟨⟨hcz, hfz⟩, hlp⟩ := HFIN.out g cp wz hown hgrow hat; have HLP := Lib.hid hlp; clear hlp hown hgrow hat))
      all_goals
        go_wp2_with fail
        go_end0
        exact HR.out _ _ HLP.out

theorem put_any (mb : Nat) (x c least nx : Int) (ls : List Int) (lins : List Lin) (r : Option Nat) (ex : List Value) (v vL : Value) (G : Nat → Prop) (w : World) (hlins : lins.length ≤ 4000000) (M : MkAt w G mb 55 42 ex v nx lins r) (hle : -9223372036854775808 ≤ least ∧ least ≤ 9223372036854775807) (hx : -9223372036854775808 ≤ x ∧ x ≤ 9223372036854775807) (hc : -9223372036854775808 ≤ c ∧ c ≤ 9223372036854775807) (hlen : ls.length ≤ 1000000)
    (hd : DAt w (· < w.heap.size) (.sl (dints ls)) [vL]) :
    Calls Tryd.prog 44 #[.pointer (some ⟨mb, 0, none⟩), .int .i64 x, .int .i64 c, vL, .int .i64 least] w (LitPost w G mb 55 42 ex lins r (.tuple #[]) [⟨c :: ls.map (fun _ => 1), x :: ls, least⟩] nx) := by
  obtain ⟨a, b, o, cap, he, h1, h2, h3, h4, h5⟩ := hd.open_ints
  simp only [List.cons.injEq, and_true] at he
  subst he
  exact put_loop mb x c least nx ls lins r ex v G a b o cap w hlins M hle hx hc hlen h1 h5 h4 _ (fun _ _ h => h)

end Go.Proofs.YtpacnaeckbcpjaaDoor
