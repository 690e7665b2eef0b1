/- LexTokens: for every source, where the listed library variables hold what their text lays, the law returns true: Tokens agrees with the reference. -/
import Derived.Test.YtpcbaokplifcoaaDoorLexV
import Derived.Test.YtpcbaokplifcoaaDoorLawAgain
namespace Go.Proofs.YtpcbaokplifcoaaDoor
open Go.RowKit Go.Chalk

set_option maxRecDepth 100000 in
set_option maxHeartbeats 2000000 in
theorem tokensR_any (l : Bs) (a : Option Addr) (b o cap : Nat) (w : World) (hsb : SB w w.heap.size l a b o) (hcap : l.length ≤ cap) (hmax : l.length ≤ 281474976710656) :
    Calls Tryd.prog 11 #[.slice a l.length cap] w (TkPost w 34 l) := by
  by_cases hbig : 16384 < l.length
  · have hf : tokensF l = ([], 0, 2) := by unfold tokensF; rw [if_pos hbig]
    have HF := Lib.hid (TkPost.mk' (w := w) (w' := w) (e := 34) (v := .slice none 0 0) hf (OwnT.nil _ _) (fun k hk => by cases hk) (Below.refl _ _))
    have hbig' : decide ((16384 : Int) < (l.length : Int)) = true := by simp; omega
    clear hf hsb
    go_enter Tryd.func11, Tryd.ntmps11
    go_wp2_with fail
    go_ret3
    exact HF.out
  · have hf : tokensF l = lexS l 0 [] := by unfold tokensF; rw [if_neg hbig]
    have hbig' : decide ((16384 : Int) < (l.length : Int)) = false := by simp; omega
    have hl : l.length ≤ 16384 := by omega
    have HTF := Lib.hid hf
    have HSB := Lib.hid hsb
    have HPA := Lib.hid (pass_any l a b o cap 0 w hsb (Nat.zero_le _) hmax)
    obtain ⟨i0, hi, hz0, hz1, hz2⟩ := info_parts tok_info
    clear hf hsb hbig
    go_enter Tryd.func11, Tryd.ntmps11
    go_wp2_with fail
    refine HPA.out.mono ?_
    rintro e w' ⟨p0, rfl, hpt, hph, rfl⟩
    have HS0 : Hid (lexS (l.drop p0) p0 [] = lexS l 0 []) := by
      have := hpt.same []
      rw [List.drop_zero] at this
      exact this.symm
    have hp0 := hpt.le'
    have HH0 := Lib.hid hph
    clear hpt hph HPA
    go_wp2_with fail
    go_loopw [6, 5, 7, 8] (fun i lv _ _ wr => ∃ (p : Nat) (q : Option Nat) (acc : List Tok), i = .int .i64 p ∧ p ≤ l.length ∧ acc.length ≤ p ∧ OwnT wr 34 lv q acc ∧ Hid (∀ k, q = some k → w'.heap.size ≤ k) ∧ Hid (lexS (l.drop p) p acc = lexS l 0 []) ∧ Hid (∀ h : p < l.length, whiteB l[p] = false ∧ hashB l[p] = false) ∧ Below w'.heap.size w' wr) (fun i _ _ _ _ => l.length - (intOf i).toNat)
    case atStart => exact ⟨p0, none, [], rfl, hp0, Nat.zero_le _, OwnT.nil _ _, fun k hk => (by cases hk), HS0.out, HH0.out, Below.refl _ _⟩
    case round =>
      obtain ⟨p, q, acc, rfl, hp, hal, hO, HQ, HSM, HHD, hb⟩ := hrel
      have HO := Lib.hid hO
      have HB := Lib.hid hb
      have hbs := hb.size
      obtain ⟨la, lcap, rfl⟩ := hO.form
      obtain ⟨cs0, hrow, hds⟩ := hO.row
      have HROW := Lib.hid hrow
      have HDS := Lib.hid hds
      obtain ⟨kl, hkl⟩ : ∃ kl, kl = acc.length := ⟨_, rfl⟩
      rw [← hkl] at HROW HO hal ⊢
      have HKL := Lib.hid hkl
      clear hO hrow hds hkl
      by_cases hlt : p < l.length
      · obtain ⟨rfl, hbl⟩ := HSB.out.1 (by omega)
        have HON := Lib.hid (one_any l b o cap p wr (HSB.out.below hb hb.size) hlt hcap hmax)
        obtain ⟨hw, hh⟩ := HHD.out hlt
        have hsm := HSM.out
        rw [List.drop_eq_getElem_cons hlt] at hsm
        clear hb
        go_wp2_with fail
        refine HON.out.mono ?_
        rintro e w3 ⟨k0, s0, z0, ok, rfl, hok, hval, hb3⟩
        have HB3 := Lib.hid (HB.out.trans (hb3.mono hbs))
        have HO3 := Lib.hid (HO.out.below hb3)
        have HRO3 := Lib.hid (ownsRow_below HROW.out hb3)
        cases ok
        · have hfin : tokensF l = ([], p, 50) := by
            rw [List.drop_eq_getElem_cons hlt] at hok
            rw [HTF.out, ← hsm, lexS_bad hw hh hok]
          have HFIN := Lib.hid hfin
          clear hfin hsm hok hval hb3 hw hh
          go_wp2_with fail
          go_ret3
          exact TkPost.mk' HFIN.out (OwnT.nil _ _) (fun k hk => by cases hk) (HB3.out.alloc HB3.out.size _)
        · obtain ⟨rfl, rfl, rfl⟩ := hval rfl
          have hpos := next_pos hok
          rw [List.length_drop] at hpos
          have hok2 := hok
          rw [List.drop_eq_getElem_cons hlt] at hok2
          rw [lexS_tok hw hh hok2, ← List.drop_eq_getElem_cons hlt, List.drop_drop] at hsm
          have hkd : 0 ≤ (nextF (l.drop p)).1 ∧ (nextF (l.drop p)).1 ≤ 4 := by
            rw [List.drop_eq_getElem_cons hlt, nextF]; split
            · simp
            · split <;> simp
          have HNEW := Lib.hid hsm
          clear hsm hok hok2 hval hb3 hw hh
          generalize (nextF (l.drop p)).1 = kd at *
          generalize (nextF (l.drop p)).2.1 = tx at *
          have hpa := fun (W : World) (h : Below w'.heap.size w' W) => pass_any l (some ⟨b, o, none⟩) b o cap (p + tx.length) W (HSB.out.below h h.size) (by omega) hmax
          have HPA2 := Lib.hid hpa
          clear hpa
          have hb4 : Below w3.heap.size w3 ((w3.alloc (.cells #[.int .i64 kd, .string ⟨tx.toArray⟩, .int .i64 (p : Int)] 34)).alloc (.cells #[.int .i64 kd, .string ⟨tx.toArray⟩, .int .i64 (p : Int)] 34)) := ((Below.refl _ _).alloc (Nat.le_refl _) _).alloc (by simp) _
          have HB4 := Lib.hid hb4
          have HROW4 := Lib.hid (ownsRow_below HRO3.out hb4)
          have HO4 := Lib.hid (HO3.out.below hb4)
          have HQ4 : Hid (∀ k, q = some k → k < w3.heap.size) := fun k hk => Own.row_lt HO3.out hk
          have HBX : Hid (((w3.alloc (.cells #[.int .i64 kd, .string ⟨tx.toArray⟩, .int .i64 (p : Int)] 34)).alloc (.cells #[.int .i64 kd, .string ⟨tx.toArray⟩, .int .i64 (p : Int)] 34)).heap[w3.heap.size]? = some (.cells #[.int .i64 kd, .string ⟨tx.toArray⟩, .int .i64 (p : Int)] 34 (0, 0))) := (Below.heap_alloc _ _ _ (by simp)).trans (heap_alloc_new _ _)
          have HNW : Hid (((w3.alloc (.cells #[.int .i64 kd, .string ⟨tx.toArray⟩, .int .i64 (p : Int)] 34)).alloc (.cells #[.int .i64 kd, .string ⟨tx.toArray⟩, .int .i64 (p : Int)] 34)).heap[w3.heap.size + 1]? = some (.cells #[.int .i64 kd, .string ⟨tx.toArray⟩, .int .i64 (p : Int)] 34 (0, 0))) := by
            have := heap_alloc_new (w3.alloc (.cells #[.int .i64 kd, .string ⟨tx.toArray⟩, .int .i64 (p : Int)] 34)) (.cells #[.int .i64 kd, .string ⟨tx.toArray⟩, .int .i64 (p : Int)] 34)
            rw [World.size_alloc] at this
            exact this
          clear hb4
          have hcast : (p : Int) + (tx.length : Int) = ((p + tx.length : Nat) : Int) := by omega
          have HCAST := Lib.hid hcast
          clear hcast
          go_upto_region 10 with (at_builtin; go_must (refine wpList_append_lies _ rfl _ _ 24 rfl 0 34 i0 _ 3 32 Tryd.underlying24 hi hz0 hz1 hz2 rfl (by decide) (.slice la kl lcap) _ _ rfl HROW4.out ⟨w3.heap.size + 1, 0, none⟩ 1 1 [.int .i64 kd, .string ⟨tx.toArray⟩, .int .i64 (p : Int)] rfl rfl (World.news_of_block HNW.out) (by simp [Value.oneCell']) (by omega) (by unfold maxLen; omega) (by omega) (Nat.zero_le _) (w3.heap.size + 1 + 1) (by simp) ?_); intro g cp w5 hown hgrow hat hglt; have hpu := OwnT.push ⟨kd, tx, p⟩ ⟨hkd.1, hkd.2, by show tx.length ≤ _; omega, by show p ≤ _; omega⟩ HO4.out HDS.out.nowhere (by rw [← HKL.out]; exact hown) hgrow (by simpa using hat); have HPU := Lib.hid hpu; clear hpu hown hgrow hat)
          obtain ⟨g1, g2, g3⟩ := HPU.out
          have hs3 := HB3.out.size
          have HB5 := Lib.hid (HB3.out.trans ((HB4.out.mono hs3).trans (g2.below (by have := HB4.out.size; omega) (fun k hk => HQ.out k hk))))
          have hblk := (g2.block w3.heap.size (by simp; omega) (fun h => by have := HQ4.out _ h; omega)).trans HBX.out
          have x1 : w5.cell? ⟨w3.heap.size, 1, none⟩ = some (.string ⟨tx.toArray⟩) := cell_of_heap hblk rfl
          have HPA3 := Lib.hid (HPA2.out w5 HB5.out)
          rw [← HCAST.out] at HPA3
          rw [← HKL.out] at g1
          have HG1 := Lib.hid g1
          have HG3 := Lib.hid g3
          clear g1 g2 g3 hblk
          go_wp2_with fail
          refine HPA3.out.mono ?_
          rintro e w6 ⟨p', rfl, hpt, hph, rfl⟩
          have HPT := Lib.hid hpt
          have HPH := Lib.hid hph
          have hple := hpt.le
          have hple' := hpt.le'
          clear hpt hph
          go_wp2_with fail
          refine ⟨⟨p', some g, acc ++ [⟨kd, tx, p⟩], rfl, hple', by have := HKL.out; simp; omega, HG1.out, fun k hk => ?_, by rw [← HNEW.out]; exact (HPT.out.same _).symm, HPH.out, HB5.out⟩, by simp [intOf]; omega⟩
          cases hk
          rcases HG3.out with h | h
          · exact HQ.out _ h
          · rw [h]; simp; omega
      · have hend : p = l.length := by omega
        have hfin : tokensF l = (acc ++ [⟨4, [], l.length⟩], 0, 0) := by
          rw [HTF.out, ← HSM.out, hend, List.drop_length, lexS_end]
        have HFIN := Lib.hid hfin
        have HROW2 : Hid ((wr.alloc (.cells #[.int .i64 4, .string ⟨#[]⟩, .int .i64 (l.length : Int)] 34)).ownsRow 0 34 3 (.slice la kl lcap) kl cs0) := ownsRow_below HROW.out ((Below.refl _ _).alloc (Nat.le_refl _) _)
        have HOWN2 : Hid (OwnT (wr.alloc (.cells #[.int .i64 4, .string ⟨#[]⟩, .int .i64 (l.length : Int)] 34)) 34 (.slice la kl lcap) q acc) := HO.out.below ((Below.refl _ _).alloc (Nat.le_refl _) _)
        clear hfin hb hend
        go_wp2_with (at_builtin; go_must (refine wpList_append_lies _ rfl _ _ 24 rfl 0 34 i0 _ 3 32 Tryd.underlying24 hi hz0 hz1 hz2 rfl (by decide) (.slice la kl lcap) _ _ rfl HROW2.out ⟨wr.heap.size, 0, none⟩ 1 1 [.int .i64 4, .string ⟨#[]⟩, .int .i64 (l.length : Int)] rfl rfl (World.news_of_block (heap_alloc_new wr _)) (by simp [Value.oneCell']) (by omega) (by unfold maxLen; omega) (by omega) (Nat.zero_le _) (wr.heap.size + 1) (by simp) ?_); intro g cp w3 hown hgrow hat hglt; have HO3 := Lib.hid hown; have HGR := Lib.hid hgrow; have HAT := Lib.hid hat; clear hown hgrow hat)
        go_ret3
        have hKL := HKL.out
        subst hKL
        obtain ⟨g1, g2, g3⟩ := HOWN2.out.push ⟨4, [], l.length⟩ ⟨by show (0 : Int) ≤ 4; decide, by show (4 : Int) ≤ 4; decide, by simp, by show l.length ≤ _; omega⟩ HDS.out.nowhere HO3.out HGR.out (by simpa using HAT.out)
        refine TkPost.mk' (p := 0) HFIN.out g1 (fun k hk => ?_) (HB.out.trans ((((Below.refl _ _).alloc (Nat.le_refl _) _).mono hbs).trans (g2.below (by simp; omega) (fun k hk => HQ.out k hk))))
        cases hk
        rcases g3 with h | h
        · exact HQ.out _ h
        · rw [h]; simp; omega

theorem tokens_few (l : Bs) : (tokensF l).1.length ≤ 1000000 := by
  unfold tokensF
  split
  · simp
  · have hs := goF_shape (l.length + 1) l 0 [] (by omega)
    have hlx : goF (l.length + 1) l 0 [] = lexS l 0 [] := rfl
    rw [hlx] at hs
    rcases hs with ⟨e1, e2⟩ | ⟨e1, _⟩
    · have h3 : lexS l 0 [] = ((lexS l 0 []).1, (lexS l 0 []).2.1, 0) := by rw [← e1]
      exact (JoinOk.of_lex (by omega) h3).len
    · rw [e1]; simp

set_option maxRecDepth 100000 in
set_option maxHeartbeats 1000000 in
theorem tokens_walk (w : World) (hg : GAt w) (l : Bs) (a : Option Addr) (b o cap : Nat) (hsb : SB w w.heap.size l a b o) (hcap : l.length ≤ cap) (hmax : cap ≤ maxLen) :
    Calls Tryd.prog 3 #[.slice a l.length cap] w fun e w' => e = .returned (.bool true) ∧ Below w.heap.size w w' := by
  unfold maxLen at hmax
  have HLV := Lib.hid (live_any w hg)
  by_cases hbig : 40000 < l.length
  · have h1 : decide ((4000 : Int) < (l.length : Int)) = true := by simp; omega
    have h2 : decide ((l.length : Int) ≤ 16384) = false := by simp; omega
    have h3 : decide ((40000 : Int) < (l.length : Int)) = true := by simp; omega
    clear hsb hg hbig
    go_enter Tryd.func3, Tryd.ntmps3
    go_wp2_with (go_at_call 9; refine HLV.out.mono ?_; rintro e w1 ⟨rfl, hb1⟩)
    go_ret
    exact ⟨rfl, hb1⟩
  · have h3 : decide ((40000 : Int) < (l.length : Int)) = false := by simp; omega
    by_cases hmid : 4000 < l.length ∧ l.length ≤ 16384
    · have h1 : decide ((4000 : Int) < (l.length : Int)) = true := by simp; omega
      have h2 : decide ((l.length : Int) ≤ 16384) = true := by simp; omega
      clear hsb hg hbig hmid
      go_enter Tryd.func3, Tryd.ntmps3
      go_wp2_with (go_at_call 9; refine HLV.out.mono ?_; rintro e w1 ⟨rfl, hb1⟩)
      go_ret
      exact ⟨rfl, hb1⟩
    · have hgd : decide ((4000 : Int) < (l.length : Int)) = false ∨ (decide ((4000 : Int) < (l.length : Int)) = true ∧ decide ((l.length : Int) ≤ 16384) = false) := by
        by_cases h : 4000 < l.length
        · exact .inr ⟨by simp; omega, by simp; omega⟩
        · exact .inl (by simp; omega)
      have HTK := Lib.hid (fun (W : World) (h : Below w.heap.size w W) => tokens_any l a b o cap W (hsb.below h h.size) hcap (hg.below h))
      have HTR := Lib.hid (fun (W : World) (h : Below w.heap.size w W) => tokensR_any l a b o cap W (hsb.below h h.size) hcap (by omega))
      have HFW := Lib.hid (tokens_few l)
      unfold TkPost at HTK HTR
      generalize tokensF l = R at *
      obtain ⟨ts, x, er⟩ := R
      simp only at HTK HTR HFW
      clear hsb hg hbig hmid
      have hx : ((x : Int) == (x : Int)) = true := by simp
      have he : (er == er) = true := by simp
      rcases hgd with h1 | ⟨h1, h2⟩
      all_goals
        go_enter Tryd.func3, Tryd.ntmps3
        go_wp2_with (go_at_call 9; refine HLV.out.mono ?_; rintro e w1 ⟨rfl, hb1⟩)
        have HB1 := Lib.hid hb1
        clear hb1
        refine (HTK.out _ HB1.out).mono ?_
        rintro e w2 ⟨v2, q2, rfl, ho2, _, hb2⟩
        obtain ⟨a2, b2, o2, cap2, rfl, hr2, hc2⟩ := ho2.read
        have HB2 := Lib.hid (HB1.out.trans (hb2.mono HB1.out.size))
        have HR2 := Lib.hid hr2
        clear ho2 hb2 hr2
        go_wp2_with fail
        refine (HTR.out _ HB2.out).mono ?_
        rintro e w3 ⟨v3, q3, rfl, ho3, _, hb3⟩
        obtain ⟨a3, b3, o3, cap3, rfl, hr3, hc3⟩ := ho3.read
        have HB3 := Lib.hid (HB2.out.trans (hb3.mono HB2.out.size))
        have HSA := Lib.hid (same_any ts (placesF ts) a2 a3 b2 o2 cap2 b3 o3 cap3 w3 (HR2.out.below hb3 hb3.size) hr3 HFW.out)
        clear ho3 hb3 hr3
        go_wp2_with (go_at_call 12; refine HSA.out.mono ?_; rintro e w4 ⟨rfl, hb4⟩; have HB4 := Lib.hid (HB3.out.trans (hb4.mono HB3.out.size)); clear hb4)
        go_ret
        exact ⟨by simp, HB4.out⟩
end Go.Proofs.YtpcbaokplifcoaaDoor
