/- gate's Gates. -/
import Derived.Test.YtpacnaeckbcpjaaDoorMade2
import Derived.Test.YtpacnaeckbcpjaaDoorGatesRef
namespace Go.Proofs.YtpacnaeckbcpjaaDoor
open Go.RowKit Go.Chalk

/-- A slice of one tree that was just written out. -/
theorem one_tree {w : World} {t : Tr} {c0 c1 c2 c3 : Value} (h : DAt w (· < w.heap.size) t.toD [c0, c1, c2, c3]) (e : TypeId) {H : Nat} (hH : w.heap.size = H) :
    DAt (w.alloc (.cells #[c0, c1, c2, c3] e)) (· < (w.alloc (.cells #[c0, c1, c2, c3] e)).heap.size) (.sl ([t].map Tr.toD)) [.slice (some ⟨H, 0, none⟩) 1 1] := by
  subst hH
  have h1 : DsAt w (· < w.heap.size) [t.toD] [c0, c1, c2, c3] := by rw [DsAt]; exact ⟨_, [], (List.append_nil _).symm, h, by rw [DsAt]⟩
  have h2 := Own.lit (w := w) (e := e) (sz := 4) (n := 1) (xs := [t.toD]) (cs := [c0, c1, c2, c3]) rfl (by decide) rfl h1 (fun k hk => hk)
  exact h2.read (fun k hk => by simp; omega) (fun k hk => by simp at hk ⊢; omega) (by simp [widths, Tr.width])

theorem new_behind {w w1 w2 : World} {x : D} {cs : List Value} (h : NewAt w1 w2 x cs) (hs : w.heap.size ≤ w1.heap.size) : NewAt w w2 x cs := DAt.mono (fun k hk => ⟨by omega, hk.2⟩) _ _ h
theorem new_later {w w2 w3 : World} {x : D} {cs : List Value} (h : NewAt w w2 x cs) (hb : Below w2.heap.size w2 w3) : NewAt w w3 x cs :=
  DAt.mono (fun k hk => ⟨hk.1, Nat.lt_of_lt_of_le hk.2 hb.size⟩) _ _ (DAt.agree (fun k hk => hb.block k hk.2) _ _ h)

set_option maxRecDepth 100000 in
set_option maxHeartbeats 1000000 in
theorem gates_any (t : Tr) (x : Value) (next : Int) (w : World) (hs : t.size ≤ 200000) (ht : TreeV w (· < w.heap.size) t x) :
    Calls Tryd.prog 6 #[x, .int .i64 next] w (GatesPost w (gatesF t next)) := by
  have HT := Lib.hid ht
  obtain ⟨c0, c1, c2, c3, rfl, h⟩ := ht
  obtain ⟨k0, k1, k2, a1, n1, cap1, rfl, rfl, rfl, rfl⟩ := TreeV.shape h
  have hb1 : Below w.heap.size w (w.alloc (.cells #[.int .i64 k0, .int .i64 k1, .int .i64 k2, .slice a1 n1 cap1] 24)) := (Below.refl _ _).alloc (Nat.le_refl _) _
  have h1 : DAt (w.alloc (.cells #[.int .i64 k0, .int .i64 k1, .int .i64 k2, .slice a1 n1 cap1] 24)) (· < (w.alloc (.cells #[.int .i64 k0, .int .i64 k1, .int .i64 k2, .slice a1 n1 cap1] 24)).heap.size) t.toD [.int .i64 k0, .int .i64 k1, .int .i64 k2, .slice a1 n1 cap1] :=
    DAt.mono (fun k hk => by simp; omega) _ _ (DAt.agree (agree_of_below hb1) _ _ h)
  have h2 := one_tree h1 24 (H := w.heap.size + 1) (by simp)
  have HD := Lib.hid h2
  clear h h1 h2 hb1
  go_enter Tryd.func6, Tryd.ntmps6
  go_wp2_with fail
  refine (made_any [t] next _ _ HD.out (by simp [sizes]; omega)).mono ?_
  rintro e w2 ⟨vL, vS, rfl, hL, hS, hb⟩
  have hbw : Below w.heap.size w w2 := (((Below.refl _ _).alloc (Nat.le_refl _) _).alloc (by simp) _).trans (hb.mono (by simp; omega))
  have HBW := Lib.hid hbw
  rw [allF_one] at hL hS ⊢
  by_cases he : (gatesF t next).2.2.2 = 0
  · rw [if_neg (by simpa using he)] at hL hS ⊢
    have hL' := new_behind (w := w) hL (by simp; omega)
    have hS' := new_behind (w := w) hS (by simp; omega)
    obtain ⟨la, lb, lo, lcap, hl, hl1, hl2, hl3, hl4, hl5⟩ := DAt.open_ints hL'
    simp only [List.cons.injEq, and_true, List.length_singleton] at hl
    subst hl
    obtain ⟨rfl, hlb⟩ := hl1 (by simp)
    have hlc := hl5 0 (by simp)
    simp only [Nat.add_zero, List.getElem_cons_zero] at hlc
    obtain ⟨sa, sn, scap, hsv⟩ : ∃ a n cap, vS = .slice a n cap := by
      rw [NewAt, DAt] at hS'
      obtain ⟨a, _, _, cap, h, _⟩ := hS'
      simp at h
      exact ⟨a, _, cap, h⟩
    subst hsv
    have HS := Lib.hid hS'
    generalize hg : gatesF t next = g at *
    obtain ⟨g1, g2, g3, g4⟩ := g
    simp only at he hlc HS ⊢
    subst he
    have hlt2 : lb < w2.heap.size := hlb.2
    clear hL hS hL' hS' hl1 hl2 hl3 hl4 hl5 hb hbw hg hlb
    go_wp2_with fail
    go_quiet (fail)
    go_wp2_with fail
    refine bodyPost_ret (v := .tuple #[.int .i64 g1, .slice sa sn scap, .int .i64 g3, .int .i64 0]) (by simp [results, Tryd.results6, go_sem]) rfl ?_
    have hb3 : Below w2.heap.size w2 (w2.alloc (.cells #[.slice sa sn scap, .int .i64 g3] 45)) := (Below.refl _ _).alloc (Nat.le_refl _) _
    exact ⟨_, rfl, new_later (w3 := (w2.alloc _).drewN _) (new_later HS.out hb3) ⟨rfl, rfl, rfl, Nat.le_refl _, fun _ _ => rfl⟩, (HBW.out.trans (hb3.mono HBW.out.size)).os, (HBW.out.trans (hb3.mono HBW.out.size)).tape, (HBW.out.trans (hb3.mono HBW.out.size)).output, (HBW.out.trans (hb3.mono HBW.out.size)).size, (HBW.out.trans (hb3.mono HBW.out.size)).block⟩
  · rw [if_pos (by simpa using he)]
    have HG := Lib.hid (gatesF_err t next he)
    have hne : ((gatesF t next).2.2.2 != 0) = true := by simpa using he
    obtain ⟨sa, sn, scap, hsv⟩ : ∃ a n cap, vS = .slice a n cap := by
      rw [NewAt, DAt] at hS
      obtain ⟨a, _, _, cap, h, _⟩ := hS
      simp at h
      exact ⟨a, _, cap, h⟩
    subst hsv
    obtain ⟨la, ln, lcap, hlv⟩ : ∃ a n cap, vL = .slice a n cap := by
      rw [NewAt, DAt] at hL
      obtain ⟨a, _, _, cap, h, _⟩ := hL
      simp at h
      exact ⟨a, _, cap, h⟩
    subst hlv
    clear hL hS hb hbw he
    generalize hx : (gatesF t next).2.2.2 = ec at *
    have HX := Lib.hid hx
    clear hx
    go_wp2_with fail
    refine bodyPost_ret (v := .tuple #[.int .i64 0, .slice none 0 0, .int .i64 0, .int .i64 ec]) (by simp [results, Tryd.results6, go_sem]) rfl ?_
    rw [HG.out]
    exact GatesPost.err (HBW.out.alloc HBW.out.size _)

end Go.Proofs.YtpacnaeckbcpjaaDoor
