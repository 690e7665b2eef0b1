/- LexRuns: for every source, where the listed library variables hold what their text lays, the law returns true: tokens are maximal. -/
import Derived.Test.YtpcbaokplifcoaaDoorLexK
import Derived.Test.YtpcbaokplifcoaaDoorLexProps3
namespace Go.Chalk
open Go.RowKit Go.Proofs.YtpcbaokplifcoaaDoor

theorem runsB_get : ∀ {ts : List Tok}, runsB ts = true → (∀ i (h : i + 1 < ts.length), pairB (ts[i]'(by omega)) ts[i + 1] = true) ∧ ∀ (h : 0 < ts.length), (ts[ts.length - 1]).kind = 4
  | [], h => by simp [runsB] at h
  | [a], h => ⟨fun i h => by simp at h, fun _ => by simpa [runsB] using h⟩
  | a :: c :: r, h => by
    rw [runsB, Bool.and_eq_true] at h
    obtain ⟨g1, g2⟩ := runsB_get h.2
    refine ⟨fun i hi => ?_, fun _ => ?_⟩
    · cases i with
      | zero => exact h.1
      | succ i => exact g1 i (by simpa using hi)
    · have := g2 (by simp)
      simpa using this
theorem pair_cases {a c : Tok} (h : pairB a c = true) : a.kind ≠ 4 ∧ a.text ≠ [] ∧ (((a.at_ : Int) + (a.text.length : Int) == (c.at_ : Int)) = false ∨
    (((a.at_ : Int) + (a.text.length : Int) == (c.at_ : Int)) = true ∧ ((a.kind = 1 ∧ c.kind = 3) ∨ (a.kind = 1 ∧ c.kind = 4) ∨ (a.kind = 2 ∧ c.kind ≠ 2) ∨ (a.kind ≠ 1 ∧ a.kind ≠ 2)))) := by
  have hs : ((a.at_ : Int) + (a.text.length : Int) == (c.at_ : Int)) = sideB a c := by
    unfold sideB; rw [Bool.eq_iff_iff]; simp only [beq_iff_eq]; omega
  rw [hs]
  unfold pairB at h
  simp only [Bool.and_eq_true, Bool.not_eq_true', Bool.or_eq_false_iff, beq_eq_false_iff_ne, List.isEmpty_eq_false_iff] at h
  obtain ⟨⟨h1, h2⟩, h3, h4⟩ := h
  refine ⟨h3, h4, ?_⟩
  cases hsd : sideB a c
  · exact .inl rfl
  · rw [hsd] at h1 h2
    refine .inr ⟨rfl, ?_⟩
    simp only [Bool.true_and, Bool.and_eq_false_iff, beq_eq_false_iff_ne, bne_eq_false_iff_eq] at h1 h2
    by_cases k1 : a.kind = 1
    · by_cases k3 : c.kind = 3
      · exact .inl ⟨k1, k3⟩
      · by_cases k4 : c.kind = 4
        · exact .inr (.inl ⟨k1, k4⟩)
        · rcases h1 with (h1 | h1) | h1
          · exact absurd k1 h1
          · exact absurd h1 k3
          · exact absurd h1 k4
    · by_cases k2 : a.kind = 2
      · refine .inr (.inr (.inl ⟨k2, ?_⟩))
        rcases h2 with h2 | h2
        · exact absurd k2 h2
        · exact h2
      · exact .inr (.inr (.inr ⟨k1, k2⟩))
theorem lex_bounds {b : Bs} {res : List Tok} {x : Nat} (h : lexS b 0 [] = (res, x, 0)) : ∀ t ∈ res, t.text.length ≤ b.length ∧ t.at_ + t.text.length ≤ b.length := by
  have hp := (lexS_places b h).1
  have key : ∀ (ts : List Tok) (e : Nat), placesB b ts e = true → ∀ t ∈ ts, t.at_ + t.text.length ≤ b.length := by
    intro ts
    induction ts with
    | nil => intro e _ t ht; simp at ht
    | cons s r ih =>
      intro e he t ht
      rw [placesB] at he
      simp only [Bool.and_eq_true, decide_eq_true_eq] at he
      rcases List.mem_cons.1 ht with rfl | ht
      · exact he.1.1.1.2
      · exact ih _ he.2 t ht
  intro t ht
  have := key res 0 hp t ht
  exact ⟨by omega, this⟩
end Go.Chalk
namespace Go.Proofs.YtpcbaokplifcoaaDoor
open Go.RowKit Go.Chalk

set_option maxRecDepth 100000 in
set_option maxHeartbeats 4000000 in
theorem runs_walk (w : World) (hg : GAt w) (l : Bs) (a : Option Addr) (b o cap : Nat) (hsb : SB w w.heap.size l a b o) (hcap : l.length ≤ cap) (hmax : cap ≤ maxLen) :
    Calls Tryd.prog 8 #[.slice a l.length cap] w fun e w' => e = .returned (.bool true) ∧ Below w.heap.size w w' := by
  unfold maxLen at hmax
  have HLV := Lib.hid (live_any w hg)
  by_cases hbig : 2000 < l.length
  · have hbig' : decide ((2000 : Int) < (l.length : Int)) = true := by simp; omega
    clear hsb hg hbig
    go_enter Tryd.func8, Tryd.ntmps8
    go_wp2_with (go_at_call 9; refine HLV.out.mono ?_; rintro e w1 ⟨rfl, hb1⟩)
    go_ret
    exact ⟨rfl, hb1⟩
  · have hbig' : decide ((2000 : Int) < (l.length : Int)) = false := by simp; omega
    have htf : tokensF l = lexS l 0 [] := by unfold tokensF; rw [if_neg (by omega)]
    have HTK := Lib.hid (fun (W : World) (h : Below w.heap.size w W) => tokens_any l a b o cap W (hsb.below h h.size) hcap (hg.below h))
    have hlen : l.length ≤ 2000 := by omega
    clear hbig hsb hg
    have hsh := goF_shape (l.length + 1) l 0 [] (by omega)
    have hlx : goF (l.length + 1) l 0 [] = lexS l 0 [] := rfl
    rw [hlx] at hsh
    generalize hres : lexS l 0 [] = R at *
    obtain ⟨res, x, er⟩ := R
    simp only at hsh
    have HTF := Lib.hid htf
    rcases hsh with ⟨rfl, rfl⟩ | ⟨rfl, rfl, _, _⟩
    · obtain ⟨t0, toks, hr, hruns, _⟩ := goF_runs (l.length + 1) l 0 [] res 0 (by omega) hres
      rw [List.nil_append] at hr
      rw [← hr] at hruns
      have hpos : 0 < res.length := by rw [hr]; simp
      obtain ⟨g1, g2⟩ := runsB_get hruns
      have HBD := Lib.hid (lex_bounds hres)
      have hrl : res.length ≤ 2001 := by
        obtain ⟨tk, n, hr', _, hl', _⟩ := goF_right (l.length + 1) l 0 [] res 0 (by omega) hres
        rw [hr']; simp; omega
      have HG1 := Lib.hid g1
      have HG2 := Lib.hid (g2 hpos)
      clear hres htf hlx g1 g2 hr hruns
      go_enter Tryd.func8, Tryd.ntmps8
      go_wp2_with (go_at_call 9; refine HLV.out.mono ?_; rintro e w1 ⟨rfl, hb1⟩)
      have HB1 := Lib.hid hb1
      clear hb1
      refine (HTK.out _ HB1.out).mono ?_
      rintro e w2 ⟨v2, q2, rfl, ho2, _, hb2⟩
      rw [HTF.out] at ho2 ⊢
      simp only at ho2 ⊢
      rw [show ((0 : Nat) : Int) = 0 from rfl]
      obtain ⟨a2, b2, o2, cap2, rfl, hr2, hc2⟩ := ho2.read
      obtain ⟨rfl, hbl2⟩ := hr2.1 hpos
      have HB2 := Lib.hid (HB1.out.trans (hb2.mono HB1.out.size))
      have HR2 := Lib.hid hr2
      obtain ⟨n, hn⟩ : ∃ n, n = res.length := ⟨_, rfl⟩
      rw [← hn] at hrl hpos hc2 ⊢
      have HN := Lib.hid hn
      have hn0 : ((n : Int) == 0) = false := by simp; omega
      clear ho2 hb2 hr2 hn
      go_wp2_with fail
      go_loopw [6, 7, 8, 9] (fun i _ _ _ wr => ∃ k : Nat, i = .int .i64 ((k : Int) + 1) ∧ k + 1 ≤ n ∧ Below w2.heap.size w2 wr) (fun i _ _ _ _ => n - (intOf i).toNat)
      case atStart => exact ⟨0, rfl, hpos, Below.refl _ _⟩
      case round =>
        obtain ⟨k, rfl, hj, hb⟩ := hrel
        by_cases hlt : k + 1 < n
        · have hkl : k + 1 < res.length := by rw [← HN.out]; exact hlt
          obtain ⟨hk4, hkt, hside⟩ := pair_cases (HG1.out k hkl)
          obtain ⟨y0, y1, y2⟩ := (HR2.out.below hb hb.size).2 k (by omega)
          obtain ⟨z0, z1, z2⟩ := (HR2.out.below hb hb.size).2 (k + 1) hkl
          obtain ⟨d1, d2⟩ := HBD.out _ (List.getElem_mem (show k < res.length by omega))
          rw [placesF_get (by omega)] at y2 z2
          generalize res[k] = ta at *
          generalize res[k + 1] = tc at *
          obtain ⟨ka, xa, pa⟩ := ta
          obtain ⟨kc, xc, pc⟩ := tc
          simp only at hk4 hkt hside y0 y1 y2 z0 z1 z2 d1 d2
          have hk4' : (ka == 4) = false := by simpa using hk4
          have hxe : xa.isEmpty = false := by simpa using hkt
          have HB := Lib.hid hb
          have HSD := Lib.hid hside
          clear hb hside hk4 hkt
          have HKW : Hid (∀ W : World, Below wr.heap.size wr W → W.cell? ⟨b2, o2 + k * 3, none⟩ = some (.int .i64 ka) ∧ W.cell? ⟨b2, o2 + k * 3 + 1, none⟩ = some (.string ⟨xa.toArray⟩) ∧ W.cell? ⟨b2, o2 + k * 3 + 2, none⟩ = some (.int .i64 (pa : Int)) ∧
              W.cell? ⟨b2, o2 + (k + 1) * 3, none⟩ = some (.int .i64 kc) ∧ W.cell? ⟨b2, o2 + (k + 1) * 3 + 1, none⟩ = some (.string ⟨xc.toArray⟩) ∧ W.cell? ⟨b2, o2 + (k + 1) * 3 + 2, none⟩ = some (.int .i64 (pc : Int))) := fun W h =>
            have hl := Nat.lt_of_lt_of_le hbl2 HB.out.size
            ⟨(h.cell hl).trans y0, (h.cell hl).trans y1, (h.cell hl).trans y2, (h.cell hl).trans z0, (h.cell hl).trans z1, (h.cell hl).trans z2⟩
          have i1 : (0 : Int) ≤ (k : Int) := by omega
          have i2 : (k : Int) < (n : Int) := by omega
          have i3 : (0 : Int) ≤ (k : Int) + 1 := by omega
          have i4 : (k : Int) + 1 < (n : Int) := by omega
          go_wp2_with fail
          have hw1 : IntKind.i64.wrap ((k : Int) + 1 - 1) = (k : Int) := by rw [IntWalk.i64_in _ (by omega)]; omega
          have hw2 : IntKind.i64.wrap (k : Int) = (k : Int) := IntWalk.i64_in _ (by omega)
          clear y0 y1 y2 z0 z1 z2
          go_region_held3 (fun w' => w'.cell? ⟨b2, o2 + k * 3, none⟩ = some (.int .i64 ka) ∧ w'.cell? ⟨b2, o2 + k * 3 + 1, none⟩ = some (.string ⟨xa.toArray⟩) ∧ w'.cell? ⟨b2, o2 + k * 3 + 2, none⟩ = some (.int .i64 (pa : Int)) ∧
              w'.cell? ⟨b2, o2 + (k + 1) * 3, none⟩ = some (.int .i64 kc) ∧ w'.cell? ⟨b2, o2 + (k + 1) * 3 + 1, none⟩ = some (.string ⟨xc.toArray⟩) ∧ w'.cell? ⟨b2, o2 + (k + 1) * 3 + 2, none⟩ = some (.int .i64 (pc : Int)))
            ((refine HKW.out _ ?_; repeat (first | exact Below.refl _ _ | (refine below_undrew ?_) | (refine Below.alloc ?_ (by simp) _) | (refine Below.setCell ?_ (by simp) _)))) (fail)
          clear hw1 hw2
          all_goals
            rcases HSD.out with hs | ⟨hs, hc⟩
            · clear HSD
              go_wp2_with fail
              exact ⟨⟨k + 1, by go_num, by omega, HB.out.trans (Below.mono (by repeat (first | exact Below.refl _ _ | (refine below_undrew ?_) | (refine Below.alloc ?_ (by simp) _) | (refine Below.setCell ?_ (by simp) _))) HB.out.size)⟩, by simp [intOf]; omega⟩
            · rcases hc with ⟨rfl, rfl⟩ | ⟨rfl, rfl⟩ | ⟨rfl, h2⟩ | ⟨h1, h2⟩
              · clear HSD
                go_wp2_with fail
                exact ⟨⟨k + 1, by go_num, by omega, HB.out.trans (Below.mono (by repeat (first | exact Below.refl _ _ | (refine below_undrew ?_) | (refine Below.alloc ?_ (by simp) _) | (refine Below.setCell ?_ (by simp) _))) HB.out.size)⟩, by simp [intOf]; omega⟩
              · clear HSD
                go_wp2_with fail
                exact ⟨⟨k + 1, by go_num, by omega, HB.out.trans (Below.mono (by repeat (first | exact Below.refl _ _ | (refine below_undrew ?_) | (refine Below.alloc ?_ (by simp) _) | (refine Below.setCell ?_ (by simp) _))) HB.out.size)⟩, by simp [intOf]; omega⟩
              · have h2' : (kc == 2) = false := by simpa using h2
                clear HSD h2
                go_wp2_with fail
                exact ⟨⟨k + 1, by go_num, by omega, HB.out.trans (Below.mono (by repeat (first | exact Below.refl _ _ | (refine below_undrew ?_) | (refine Below.alloc ?_ (by simp) _) | (refine Below.setCell ?_ (by simp) _))) HB.out.size)⟩, by simp [intOf]; omega⟩
              · have h1' : (ka == 1) = false := by simpa using h1
                have h2' : (ka == 2) = false := by simpa using h2
                clear HSD h1 h2
                go_wp2_with fail
                exact ⟨⟨k + 1, by go_num, by omega, HB.out.trans (Below.mono (by repeat (first | exact Below.refl _ _ | (refine below_undrew ?_) | (refine Below.alloc ?_ (by simp) _) | (refine Below.setCell ?_ (by simp) _))) HB.out.size)⟩, by simp [intOf]; omega⟩
        · obtain rfl : n = k + 1 := by omega
          have hlast := (HR2.out.below hb hb.size).2 (res.length - 1) (by rw [← HN.out]; omega)
          obtain ⟨y0, _, _⟩ := hlast
          rw [HG2.out, ← HN.out] at y0
          simp only [Nat.add_sub_cancel] at y0
          have HB := Lib.hid hb
          clear hb
          go_wp2_with fail
          go_ret
          exact ⟨rfl, HB2.out.trans (HB.out.mono HB2.out.size)⟩
    · clear htf hlx hres
      go_enter Tryd.func8, Tryd.ntmps8
      go_wp2_with (go_at_call 9; refine HLV.out.mono ?_; rintro e w1 ⟨rfl, hb1⟩)
      have HB1 := Lib.hid hb1
      clear hb1
      refine (HTK.out _ HB1.out).mono ?_
      rintro e w2 ⟨v2, q2, rfl, ho2, _, hb2⟩
      rw [HTF.out] at ho2 ⊢
      simp only at ho2 ⊢
      obtain ⟨a2, b2, o2, cap2, rfl, hr2, hc2⟩ := ho2.read
      have HB2 := Lib.hid (HB1.out.trans (hb2.mono HB1.out.size))
      clear ho2 hb2 hr2
      go_wp2_with fail
      go_ret
      exact ⟨rfl, HB2.out⟩
end Go.Proofs.YtpcbaokplifcoaaDoor
