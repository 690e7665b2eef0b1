/- LexPlaces: for every source, where the listed library variables hold what their text lays, the law returns true: tokens stand at their offsets, and between them is white space. -/
import Derived.Test.YtpcbaokplifcoaaDoorLexK
import Derived.Test.YtpcbaokplifcoaaDoorLexProps3
namespace Go.Chalk
open Go.RowKit Go.Proofs.YtpcbaokplifcoaaDoor

theorem nothing_step {l : Bs} (h : (nothingG false l).isSome = true) (j : Nat) (hj : j < l.length) {rem : Bool} (hr : nothingG false (l.take j) = some rem) :
    (lineB l[j] = true ∧ nothingG false (l.take (j + 1)) = some false) ∨ (lineB l[j] = false ∧ hashB l[j] = true ∧ nothingG false (l.take (j + 1)) = some true) ∨
    (lineB l[j] = false ∧ hashB l[j] = false ∧ rem = true ∧ nothingG false (l.take (j + 1)) = some true) ∨ (lineB l[j] = false ∧ hashB l[j] = false ∧ rem = false ∧ (l[j].toNat = 32 ∨ l[j].toNat = 9) ∧ nothingG false (l.take (j + 1)) = some false) := by
  have e : nothingG false (l.take (j + 1)) = nothingG rem [l[j]] := by
    rw [List.take_succ_eq_append_getElem hj, nothingG_append, hr]; rfl
  rw [e]
  have h2 : nothingG false (l.take (j + 1) ++ l.drop (j + 1)) = nothingG false l := by rw [List.take_append_drop]
  rw [nothingG_append, e] at h2
  rw [← h2] at h
  cases h1 : lineB l[j]
  · cases hh : hashB l[j]
    · cases rem
      · cases hw : whiteB l[j]
        · simp [nothingG, h1, hh, hw] at h
        · have hl : l[j].toNat ≠ 10 := by simpa [lineB] using h1
          have := white_three hw
          exact .inr (.inr (.inr ⟨rfl, rfl, rfl, by omega, by simp [nothingG, h1, hh, hw]⟩))
      · exact .inr (.inr (.inl ⟨rfl, rfl, rfl, by simp [nothingG, h1]⟩))
    · exact .inr (.inl ⟨rfl, rfl, by simp [nothingG, h1, hh]⟩)
  · exact .inl ⟨rfl, by simp [nothingG, h1]⟩
end Go.Chalk
namespace Go.Proofs.YtpcbaokplifcoaaDoor
open Go.RowKit Go.Chalk

set_option maxRecDepth 100000 in
set_option maxHeartbeats 1000000 in
theorem nothing_any (l : Bs) (a : Option Addr) (b o cap : Nat) (w : World) (hsb : SB w w.heap.size l a b o) (hmax : l.length ≤ 281474976710656) (hn : (nothingG false l).isSome = true) :
    Calls Tryd.prog 17 #[.slice a l.length cap] w fun e w' => e = .returned (.bool true) ∧ w' = w := by
  have HSB := Lib.hid hsb
  have HN := Lib.hid hn
  clear hsb hn
  go_enter Tryd.func17, Tryd.ntmps17
  go_wp2_with fail
  go_loop [8, 3, 5] (fun i r _ => ∃ (j : Nat) (rem : Bool), i = .int .i64 j ∧ r = .bool rem ∧ j ≤ l.length ∧ Hid (nothingG false (l.take j) = some rem)) (fun i _ _ => l.length - (intOf i).toNat)
  case atStart => exact ⟨0, false, rfl, rfl, Nat.zero_le _, rfl⟩
  case round =>
    obtain ⟨j, rem, rfl, rfl, hj, HR⟩ := hrel
    by_cases hlt : j < l.length
    · obtain ⟨rfl, hbl⟩ := HSB.out.1 (by omega)
      have hcl := HSB.out.2 j hlt
      rcases nothing_step HN.out j hlt HR.out with ⟨h1, h2⟩ | ⟨h1, h0, h2⟩ | ⟨h1, h0, rfl, h2⟩ | ⟨h1, h0, rfl, h3, h2⟩
      · have hc : l[j].toNat = 10 := by simpa [lineB] using h1
        rw [hc] at hcl
        have H2 := Lib.hid h2
        clear h1 h2 hc
        go_wp2_with fail
        go_round
        case rel => exact ⟨j + 1, false, by go_num, rfl, by omega, H2.out⟩
        case measure => simp [intOf]; omega
      · have hc : l[j].toNat = 35 := by simpa [hashB] using h0
        rw [hc] at hcl
        have H2 := Lib.hid h2
        clear h1 h2 hc h0
        go_wp2_with fail
        go_round
        case rel => exact ⟨j + 1, true, by go_num, rfl, by omega, H2.out⟩
        case measure => simp [intOf]; omega
      · have hc : ((l[j].toNat : Int) == 35) = false := by simp only [hashB, beq_eq_false_iff_ne] at h0; simp; omega
        have hc2 : ((l[j].toNat : Int) == 10) = false := by simp only [lineB, beq_eq_false_iff_ne] at h1; simp; omega
        have H2 := Lib.hid h2
        clear h1 h2 h0
        generalize (l[j].toNat : Int) = cj at *
        go_wp2_with fail
        go_round
        case rel => exact ⟨j + 1, true, by go_num, rfl, by omega, H2.out⟩
        case measure => simp [intOf]; omega
      · have H2 := Lib.hid h2
        clear h1 h2 h0
        rcases h3 with h3 | h3
        all_goals
          rw [h3] at hcl
          clear h3
          go_wp2_with fail
          go_round
          case rel => exact ⟨j + 1, false, by go_num, rfl, by omega, H2.out⟩
          case measure => simp [intOf]; omega
    · go_wp2_with fail
      go_ret
      exact ⟨rfl, rfl⟩

/-- A part of a slice of bytes. -/
theorem bytes_window {w : World} {B : Nat} {l : Bs} {a : Option Addr} {b o : Nat} (h : SB w B l a b o) (lo hi cap : Nat) (hlh : lo ≤ hi) (hl : hi ≤ l.length) (hc : l.length ≤ cap) :
    ∃ A : Option Addr, (∀ W : World, (Instr.slice 22 (.slice a l.length cap) (some (.int .i64 (lo : Int))) (some (.int .i64 (hi : Int))) none).run Tryd.prog W = .ok (.slice A (hi - lo) (cap - lo)) W) ∧ SB w B ((l.drop lo).take (hi - lo)) A b (o + lo) := by
  have hz : ∀ w, (Go.sizeOf 5).run Tryd.prog w = .ok 1 w := fun w => Tryd.sizeOf5 w
  have ht' : Tryd.prog.underlying 22 = some (.slice (Tryd.prog.elem 22)) := by kernel_rfl
  have he : Tryd.prog.elem 22 = 5 := by kernel_rfl
  refine ⟨if cap = lo then a else a.map (·.add (lo * 1)), fun W => ?_, ?_⟩
  · rw [run_slice_lh W 22 _ _ _ ht' .i64 .i64 _ _ (by omega) (by omega) (by omega), he, hz]
    simp [Result.andThen, sliced]
  · refine ⟨fun hp => ?_, (h.2.drop lo).take _⟩
    rw [List.length_take, List.length_drop] at hp
    obtain ⟨rfl, hb⟩ := h.1 (by omega)
    refine ⟨?_, hb⟩
    rw [if_neg (by omega)]
    by_cases h0 : lo = 0
    · subst h0; simp [Addr.add]
    · simp [Addr.add, h0]

set_option maxRecDepth 100000 in
set_option maxHeartbeats 4000000 in
theorem places_walk (w : World) (hg : GAt w) (l : Bs) (a : Option Addr) (b o cap : Nat) (hsb : SB w w.heap.size l a b o) (hcap : l.length ≤ cap) (hmax : cap ≤ maxLen) :
    Calls Tryd.prog 6 #[.slice a l.length cap] w fun e w' => e = .returned (.bool true) ∧ Below w.heap.size w w' := by
  unfold maxLen at hmax
  have HLV := Lib.hid (live_any w hg)
  by_cases hbig : 2000 < l.length
  · have hbig' : decide ((2000 : Int) < (l.length : Int)) = true := by simp; omega
    clear hsb hg hbig
    go_enter Tryd.func6, Tryd.ntmps6
    go_wp2_with (go_at_call 9; refine HLV.out.mono ?_; rintro e w1 ⟨rfl, hb1⟩)
    go_ret
    exact ⟨rfl, hb1⟩
  · have hbig' : decide ((2000 : Int) < (l.length : Int)) = false := by simp; omega
    have htf : tokensF l = lexS l 0 [] := by unfold tokensF; rw [if_neg (by omega)]
    have HTK := Lib.hid (fun (W : World) (h : Below w.heap.size w W) => tokens_any l a b o cap W (hsb.below h h.size) hcap (hg.below h))
    have HSB := Lib.hid hsb
    have hlen : l.length ≤ 2000 := by omega
    clear hbig hsb hg
    have hsh := goF_shape (l.length + 1) l 0 [] (by omega)
    have hlx : goF (l.length + 1) l 0 [] = lexS l 0 [] := rfl
    rw [hlx] at hsh
    generalize hres : lexS l 0 [] = R at *
    obtain ⟨res, x, er⟩ := R
    simp only at hsh
    have HTF := Lib.hid htf
    rcases hsh with ⟨rfl, rfl⟩ | ⟨rfl, rfl, hx1, hx2⟩
    · obtain ⟨hpl, hne⟩ := lexS_places l hres
      have hpos : 0 < res.length := List.length_pos_iff.2 hne
      have hrl : res.length ≤ 2001 := by
        obtain ⟨tk, n, hr', _, hl', _⟩ := goF_right (l.length + 1) l 0 [] res 0 (by omega) hres
        rw [hr']; simp; omega
      have HPL := Lib.hid hpl
      clear hres htf hlx hpl hne
      go_enter Tryd.func6, Tryd.ntmps6
      go_wp2_with (go_at_call 9; refine HLV.out.mono ?_; rintro e w1 ⟨rfl, hb1⟩)
      have HB1 := Lib.hid hb1
      clear hb1
      refine (HTK.out _ HB1.out).mono ?_
      rintro e w2 ⟨v2, q2, rfl, ho2, _, hb2⟩
      rw [HTF.out] at ho2 ⊢
      simp only at ho2 ⊢
      rw [show ((0 : Nat) : Int) = 0 from rfl]
      obtain ⟨a2, b2, o2, cap2, rfl, hr2, hc2⟩ := ho2.read
      obtain ⟨rfl, hbl2⟩ := hr2.1 hpos
      have HB2 := Lib.hid (HB1.out.trans (hb2.mono HB1.out.size))
      have HR2 := Lib.hid hr2
      obtain ⟨n, hn⟩ : ∃ n, n = res.length := ⟨_, rfl⟩
      rw [← hn] at hrl hpos hc2 ⊢
      have HN := Lib.hid hn
      clear ho2 hb2 hr2 hn
      obtain ⟨N, hN⟩ : ∃ N, N = l.length := ⟨_, rfl⟩
      rw [← hN] at hcap hbig' hlen ⊢
      have HNN := Lib.hid hN
      clear hN
      go_wp2_with fail
      go_loopw [36, 6, 8] (fun i ev _ wr => ∃ (j e : Nat), i = .int .i64 j ∧ ev = .int .i64 e ∧ j ≤ n ∧ e ≤ N ∧ Hid (placesB l (res.drop j) e = true) ∧ Below w2.heap.size w2 wr) (fun i _ _ _ => n - (intOf i).toNat)
      case atStart => exact ⟨0, 0, rfl, rfl, Nat.zero_le _, Nat.zero_le _, HPL.out, Below.refl _ _⟩
      case round =>
        obtain ⟨j, e, rfl, rfl, hj, he, HP, hb⟩ := hrel
        by_cases hlt : j < n
        · have hjl : j < res.length := by rw [← HN.out]; exact hlt
          obtain ⟨y0, y1, y2⟩ := (HR2.out.below hb hb.size).2 j hjl
          rw [placesF_get hjl] at y2
          have hp := HP.out
          rw [List.drop_eq_getElem_cons hjl, placesB] at hp
          simp only [Bool.and_eq_true, decide_eq_true_eq, beq_iff_eq] at hp
          generalize res[j] = tk at *
          obtain ⟨kd, tx, p⟩ := tk
          simp only at hp y0 y1 y2
          obtain ⟨⟨⟨⟨p1, p2⟩, p3⟩, p4⟩, p5⟩ := hp
          have hsw := HSB.out.below HB2.out HB2.out.size
          obtain ⟨A1, s1, sb1⟩ := bytes_window (hsw.below hb hb.size) p (p + tx.length) cap (by omega) p2 (by rw [← HNN.out]; exact hcap)
          obtain ⟨A2, s2, sb2⟩ := bytes_window (hsw.below hb hb.size) e p cap p1 (by omega) (by rw [← HNN.out]; exact hcap)
          rw [← HNN.out] at s1 s2 p2
          rw [Nat.add_sub_cancel_left, p3] at sb1
          rw [Nat.add_sub_cancel_left, Int.natCast_add] at s1
          have hl2 : ((l.drop e).take (p - e)).length = p - e := by rw [List.length_take, List.length_drop, ← HNN.out]; omega
          have HNO := Lib.hid (fun (W : World) (h : Below wr.heap.size wr W) => nothing_any _ A2 b (o + e) (cap - e) W (sb2.below h h.size) (by omega) p4)
          rw [hl2] at HNO
          have HTX := Lib.hid (fun (W : World) (h : Below wr.heap.size wr W) => (sb1.below h h.size).text (P := Tryd.prog) 22 5 9 Tryd.underlying22 Tryd.underlying5 Tryd.underlying9 (cap - p))
          have HP5 := Lib.hid p5
          have HB := Lib.hid hb
          clear hb sb1 sb2 p3 p4 p5 hl2 hsw HP
          go_wp2_with fail
          have hbx : Below wr.heap.size wr (wr.alloc (.cells #[.int .i64 kd, .string ⟨tx.toArray⟩, .int .i64 (p : Int)] 34)) := (Below.refl _ _).alloc (Nat.le_refl _) _
          have hblk := heap_alloc_new wr (.cells #[.int .i64 kd, .string ⟨tx.toArray⟩, .int .i64 (p : Int)] 34)
          generalize wr.alloc (.cells #[.int .i64 kd, .string ⟨tx.toArray⟩, .int .i64 (p : Int)] 34) = w4 at *
          have HB4 := Lib.hid hbx
          have c1 : w4.cell? ⟨wr.heap.size, 1, none⟩ = some (.string ⟨tx.toArray⟩) := cell_of_heap hblk rfl
          have c2 : w4.cell? ⟨wr.heap.size, 2, none⟩ = some (.int .i64 (p : Int)) := cell_of_heap hblk rfl
          have HBD := Lib.hid (below_undrew hbx)
          have HSW : Hid (w4.drew.cell? ⟨wr.heap.size, 1, none⟩ = some (.string ⟨tx.toArray⟩) ∧ w4.drew.cell? ⟨wr.heap.size, 2, none⟩ = some (.int .i64 (p : Int)) ∧ (convert 22 9 (.slice A1 tx.length (cap - p))).run Tryd.prog w4.drew = .ok (.string ⟨tx.toArray⟩) w4.drew) := ⟨c1, c2, HTX.out _ HBD.out⟩
          have hq1 : decide ((p : Int) < (e : Int)) = false := by simp; omega
          have hq1' : decide (p < e) = false := by simp; omega
          have hq2 : decide ((N : Int) < (p : Int) + (tx.length : Int)) = false := by simp; omega
          have hwrap : IntKind.i64.wrap ((p : Int) + (tx.length : Int)) = (p : Int) + (tx.length : Int) := IntWalk.i64_in _ (by omega)
          clear hbx hblk
          go_region_held3 (fun w' => w'.cell? ⟨wr.heap.size, 1, none⟩ = some (.string ⟨tx.toArray⟩) ∧ w'.cell? ⟨wr.heap.size, 2, none⟩ = some (.int .i64 (p : Int)) ∧ (convert 22 9 (.slice A1 tx.length (cap - p))).run Tryd.prog w' = .ok (.string ⟨tx.toArray⟩) w') (exact HSW.out)
            (first | (go_at_call 17; refine (HNO.out _ HBD.out).mono ?_; rintro ed w5 ⟨rfl, rfl⟩))
          clear hwrap
          go_wp2_with fail
          exact ⟨⟨j + 1, p + tx.length, by go_num, by go_num, by omega, by omega, HP5.out, HB.out.trans (HBD.out.mono HB.out.size)⟩, by simp [intOf]; omega⟩
        · obtain rfl : j = n := by omega
          have hp := HP.out
          rw [List.drop_eq_nil_of_le (by rw [← HN.out]; omega), placesB] at hp
          simp only [beq_iff_eq] at hp
          rw [← HNN.out] at hp
          subst hp
          have hn0 : decide ((0 : Int) < (j : Int)) = true := by simp; omega
          have hee : ((e : Int) == (e : Int)) = true := by simp
          clear HP
          go_wp2_with fail
          go_ret
          exact ⟨by simp, HB2.out.trans (hb.mono HB2.out.size)⟩
    · have HX : Hid (0 ≤ x ∧ x < l.length) := ⟨hx1, by omega⟩
      have h1 : decide ((0 : Int) ≤ (x : Int)) = true := by simp
      have h2 : decide (x < l.length) = true := by simp; omega
      have h3 : x < l.length := by omega
      clear htf hlx hres hx1 hx2
      go_enter Tryd.func6, Tryd.ntmps6
      go_wp2_with (go_at_call 9; refine HLV.out.mono ?_; rintro e w1 ⟨rfl, hb1⟩)
      have HB1 := Lib.hid hb1
      clear hb1
      refine (HTK.out _ HB1.out).mono ?_
      rintro e w2 ⟨v2, q2, rfl, ho2, _, hb2⟩
      rw [HTF.out] at ho2 ⊢
      simp only at ho2 ⊢
      obtain ⟨a2, b2, o2, cap2, rfl, hr2, hc2⟩ := ho2.read
      have HB2 := Lib.hid (HB1.out.trans (hb2.mono HB1.out.size))
      clear ho2 hb2 hr2
      go_wp2_with fail
      go_ret
      exact ⟨by simp, HB2.out⟩
end Go.Proofs.YtpcbaokplifcoaaDoor
