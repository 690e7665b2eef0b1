/- lex.Join. -/
import Derived.Test.YtpcbaokplifcoaaDoorLexE
namespace Go.Chalk
open Go.RowKit Go.Proofs.YtpcbaokplifcoaaDoor

def dstrs (xs : List Bs) : List D := xs.map (fun l => D.str ⟨l.toArray⟩)
theorem dstrs_length (xs : List Bs) : (dstrs xs).length = xs.length := by simp [dstrs]
theorem DsAt.strs {w : World} {F : Nat → Prop} : ∀ {xs : List Bs}, (∀ x ∈ xs, x.length ≤ 281474976710656) → DsAt w F (dstrs xs) (xs.map (fun l => Value.string ⟨l.toArray⟩))
  | [], _ => by rw [dstrs, List.map_nil, DsAt]; rfl
  | x :: r, h => by
    rw [dstrs, List.map_cons, DsAt]
    refine ⟨[.string ⟨x.toArray⟩], r.map (fun l => Value.string ⟨l.toArray⟩), rfl, ?_, DsAt.strs (fun y hy => h y (by simp [hy]))⟩
    rw [DAt]
    have := h x (by simp)
    exact ⟨rfl, by rw [size_mk]; unfold maxLen; omega⟩
theorem DsAt.strs_inv {w : World} {F : Nat → Prop} : ∀ {xs : List Bs} {cs : List Value}, DsAt w F (dstrs xs) cs → cs = xs.map (fun l => Value.string ⟨l.toArray⟩)
  | [], _, h => by rw [dstrs, List.map_nil, DsAt] at h; exact h
  | x :: r, cs, h => by
    rw [dstrs, List.map_cons, DsAt] at h
    obtain ⟨c1, c2, rfl, h1, h2⟩ := h
    rw [DAt] at h1
    obtain ⟨rfl, _⟩ := h1
    rw [DsAt.strs_inv (xs := r) h2]; rfl
/-- Texts of the call's own. -/
def OwnS (w : World) (e : TypeId) (v : Value) (q : Option Nat) (xs : List Bs) : Prop := Own w (fun _ => False) e 1 v q (dstrs xs)
theorem OwnS.row {w : World} {e : TypeId} {v : Value} {q : Option Nat} {xs : List Bs} (h : OwnS w e v q xs) : w.ownsRow 0 e 1 v xs.length (xs.map (fun l => Value.string ⟨l.toArray⟩)) := by
  obtain ⟨cs, h1, h2⟩ := h.cells
  rw [DsAt.strs_inv h2] at h1
  simpa [dstrs_length] using h1
theorem OwnS.push {w w' : World} {e : TypeId} {g cp : Nat} {v : Value} {q : Option Nat} {xs : List Bs} (x : Bs) (hx : x.length ≤ 281474976710656) (hxs : ∀ y ∈ xs, y.length ≤ 281474976710656) (h : OwnS w e v q xs)
    (h1 : w'.ownsRow 0 e 1 (.slice (some ⟨g, 0, none⟩) (xs.length + 1) cp) (xs.length + 1) (xs.map (fun l => Value.string ⟨l.toArray⟩) ++ [.string ⟨x.toArray⟩])) (hg : w.grownBy w' v.ownBlock) (hat : v.ownBlock = some g ∨ g = w.heap.size) :
    OwnS w' e (.slice (some ⟨g, 0, none⟩) (xs.length + 1) cp) (some g) (xs ++ [x]) ∧ Mod (fun k => q = some k) w w' ∧ (q = some g ∨ g = w.heap.size) := by
  obtain ⟨g1, g2, g3⟩ := Own.appended (v' := .slice (some ⟨g, 0, none⟩) (xs.length + 1) cp) (ys := dstrs [x]) h (DsAt.strs hxs) (by simpa [dstrs_length] using h1) hg (by rcases hat with h | h; exact .inl h.symm; exact .inr (by simp [Value.ownBlock, h])) (DsAt.strs (fun y hy => by simp at hy; subst hy; exact hx))
  refine ⟨?_, g2, ?_⟩
  · unfold OwnS; rw [show dstrs (xs ++ [x]) = dstrs xs ++ dstrs [x] from by simp [dstrs]]; exact (by simpa [Value.ownBlock] using g1)
  · rcases g3 with h | h
    · exact .inl h.symm
    · exact .inr (by simpa [Value.ownBlock] using h)
/-- The texts' cells. -/
theorem OwnS.read {w : World} {e : TypeId} {v : Value} {q : Option Nat} {xs : List Bs} (h : OwnS w e v q xs) (hn : 0 < xs.length) : ∃ g cap, v = .slice (some ⟨g, 0, none⟩) xs.length cap ∧ xs.length ≤ cap ∧ g < w.heap.size ∧
    ∀ (j : Nat) x, (xs.map (fun l => (⟨l.toArray⟩ : ByteArray)))[j]? = some x → w.cell? ⟨g, 0 + j, none⟩ = some (.string x) := by
  have h1 := h.row
  have h1' := h1
  obtain ⟨hlen, h2⟩ := h1
  rcases h2 with ⟨rfl, h0⟩ | ⟨g, cap, cur, rfl, _, hh, hc1, hc2, hc3, hc4⟩
  · omega
  · refine ⟨g, cap, rfl, hc1, (Array.getElem?_eq_some_iff.1 hh).1, fun j x hx => ?_⟩
    have hj : j < xs.length := by
      have := (List.getElem?_eq_some_iff.1 hx).1
      simpa using this
    have := h1'.cellAt (g := g) (cap := cap) j (by simpa using hj)
    simp only [Nat.zero_add]
    rw [this]
    simp [hj] at hx ⊢
    rw [hx]
theorem joinF_last {ts : List Tok} (h : 0 < ts.length) : joinF ts = if (ts[ts.length - 1]).kind = 4 ∧ (ts[ts.length - 1]).text = [] ∧ ((ts.take (ts.length - 1)).all rightB) = true then
      (if 16384 < (spaced ((ts.take (ts.length - 1)).map Tok.text)).length then ([], 2) else (spaced ((ts.take (ts.length - 1)).map Tok.text), 0)) else ([], 1) := by
  unfold joinF
  rw [List.getLast?_eq_getElem?, List.getElem?_eq_getElem (by omega)]
  simp only [List.dropLast_eq_take]
/-- What Join gives. -/
def JnPost (w : World) (ts : List Tok) (e : Ending) (w' : World) : Prop := ∃ v, e = .returned (.tuple #[v, .int .i64 (joinF ts).2]) ∧ BytesV w' v (joinF ts).1 ∧ Below w.heap.size w w'
theorem JnPost.mk' {w w' : World} {ts : List Tok} {v : Value} {r : Bs} {er : Int} (h : joinF ts = (r, er)) (hv : BytesV w' v r) (hb : Below w.heap.size w w') : JnPost w ts (.returned (.tuple #[v, .int .i64 er])) w' := ⟨v, by rw [h], by rw [h]; exact hv, hb⟩
end Go.Chalk
namespace Go.Proofs.YtpcbaokplifcoaaDoor
open Go.RowKit Go.Chalk
theorem str_info : (Tryd.prog.info? 9).map (fun i => (i.zero, i.size, i.bytes)) = some (some (.string ⟨#[]⟩), 1, 16) := by kernel_rfl

set_option maxRecDepth 100000 in
set_option maxHeartbeats 1000000 in
theorem join_any (ts : List Tok) (zs : Nat → Int) (a : Option Addr) (b o cap : Nat) (w : World) (hv : TksV w w.heap.size ts zs a b o) (hcap : ts.length ≤ cap) (hl : ∀ t ∈ ts, t.text.length ≤ 281474976710656) (hg : GAt w) (hmax : ts.length ≤ 1000000)
    (hsp : (spaced ((ts.take (ts.length - 1)).map Tok.text)).length ≤ 140737488355328) :
    Calls Tryd.prog 14 #[.slice a ts.length cap] w (JnPost w ts) := by
  by_cases h0 : ts.length = 0
  · have hnil : ts = [] := List.length_eq_zero_iff.1 h0
    subst hnil
    have HF := Lib.hid (JnPost.mk' (w := w) (w' := w) (ts := []) (v := .slice none 0 0) (r := []) (er := 1) rfl (BytesV.nil w) (Below.refl _ _))
    rw [h0]
    clear hv hl hg
    go_enter Tryd.func14, Tryd.ntmps14
    go_wp2_with fail
    go_ret2
    exact HF.out
  · have hpos : 0 < ts.length := by omega
    have hjf := joinF_last hpos
    obtain ⟨rfl, hbl⟩ := hv.1 hpos
    obtain ⟨x0, x1, x2⟩ := hv.2 (ts.length - 1) (by omega)
    have HCT := Lib.hid (containsT_any (ts.take (ts.length - 1)) zs (some ⟨b, o, none⟩) b o cap w (hv.take _) (fun t ht => hl t (List.mem_of_mem_take ht)) hg (by rw [List.length_take]; omega))
    rw [List.length_take, Nat.min_eq_left (by omega)] at HCT
    have HV := Lib.hid (hv.take (ts.length - 1))
    have HL : Hid (∀ t ∈ ts.take (ts.length - 1), t.text.length ≤ 281474976710656) := fun t ht => hl t (List.mem_of_mem_take ht)
    have hlen : (ts.take (ts.length - 1)).length = ts.length - 1 := by rw [List.length_take]; omega
    have HFA : Hid (∀ W : World, Below w.heap.size w W → ¬ ((ts[ts.length - 1]).kind = 4 ∧ (ts[ts.length - 1]).text = [] ∧ ((ts.take (ts.length - 1)).all rightB) = true) → JnPost w ts (.returned (.tuple #[.slice none 0 0, .int .i64 1])) W) := fun W hb hn => JnPost.mk' (by rw [hjf, if_neg hn]) (BytesV.nil W) hb
    have HOK : Hid ((ts[ts.length - 1]).kind = 4 ∧ (ts[ts.length - 1]).text = [] ∧ ((ts.take (ts.length - 1)).all rightB) = true → joinF ts = if 16384 < (spaced ((ts.take (ts.length - 1)).map Tok.text)).length then ([], 2) else (spaced ((ts.take (ts.length - 1)).map Tok.text), 0)) := fun h => by rw [hjf, if_pos h]
    generalize htk : ts.take (ts.length - 1) = us at *
    generalize hkd : (ts[ts.length - 1]).kind = kd at *
    generalize htx : (ts[ts.length - 1]).text = tx at *
    clear hjf hl hv hg htk hkd htx x2
    obtain ⟨n, hn⟩ : ∃ n, ts.length = n + 1 := ⟨ts.length - 1, by omega⟩
    have hn' : ts.length - 1 = n := by omega
    rw [hn'] at HCT x0 x1 hlen
    rw [hn] at hcap hmax ⊢
    have HLEN := Lib.hid hlen
    clear hlen hn hn' h0 hpos
    by_cases h4 : kd = 4
    · subst h4
      cases tx with
      | cons c r =>
        have HF := Lib.hid (HFA.out w (Below.refl _ _) (by simp))
        clear HFA HOK HCT
        go_enter Tryd.func14, Tryd.ntmps14
        go_wp2_with fail
        go_ret2
        exact HF.out
      | nil =>
        cases har : us.all rightB
        · rw [har] at HCT
          have HF := Lib.hid (fun W hb => HFA.out W hb (by simp [har]))
          clear HFA HOK har
          go_enter Tryd.func14, Tryd.ntmps14
          go_wp2_with (go_at_call 22; refine HCT.out.mono ?_; rintro e w2 ⟨rfl, hb2⟩)
          go_ret2
          exact HF.out _ hb2
        · rw [har] at HCT
          have HJ := Lib.hid (HOK.out ⟨rfl, rfl, har⟩)
          clear HFA HOK har
          obtain ⟨i0, hi, hz0, hz1, hz2⟩ := info_parts str_info
          have hn0 : decide ((n : Int) < 0) = false := by simp
          go_enter Tryd.func14, Tryd.ntmps14
          go_wp2_with (go_at_call 22; refine HCT.out.mono ?_; rintro e w2 ⟨rfl, hb2⟩; have HB2 := Lib.hid hb2; clear hb2)
          go_loopw [40, 5, 7] (fun i wv _ wr => ∃ (j : Nat) (q : Option Nat), i = .int .i64 j ∧ j ≤ n ∧ OwnS wr 9 wv q ((us.take j).map Tok.text) ∧ Hid (∀ k, q = some k → w.heap.size ≤ k) ∧ Below w.heap.size w wr) (fun i _ _ _ => n - (intOf i).toNat)
          case atStart => exact ⟨0, none, rfl, Nat.zero_le _, Own.nil _ _ _ _ (fun _ h => h.elim), fun k hk => (by cases hk), HB2.out⟩
          case round =>
            obtain ⟨j, q, rfl, hj, hO, HQ, hb⟩ := hrel
            have HO := Lib.hid hO
            have HB := Lib.hid hb
            have hbs := hb.size
            have hlenj : ((us.take j).map Tok.text).length = j := by rw [List.length_map, List.length_take, HLEN.out]; omega
            obtain ⟨oa, ocap, hov⟩ := Own.form hO
            rw [dstrs_length, hlenj] at hov
            subst hov
            by_cases hlt : j < n
            · obtain ⟨y0, y1, y2⟩ := HV.out.2 j (by rw [HLEN.out]; exact hlt)
              have z0 := (hb.cell (p := ⟨b, o + j * 3, none⟩) hbl).trans y0
              have z1 := (hb.cell (p := ⟨b, o + j * 3 + 1, none⟩) hbl).trans y1
              have z2 := (hb.cell (p := ⟨b, o + j * 3 + 2, none⟩) hbl).trans y2
              have hjl : j < us.length := by rw [HLEN.out]; exact hlt
              have htk : (us.take (j + 1)).map Tok.text = (us.take j).map Tok.text ++ [us[j].text] := by rw [List.take_succ_eq_append_getElem hjl, List.map_append]; rfl
              have HTK := Lib.hid htk
              have HLJ : Hid (us[j].text.length ≤ 281474976710656) := HL.out _ (List.getElem_mem hjl)
              have HLS : Hid (∀ y ∈ (us.take j).map Tok.text, y.length ≤ 281474976710656) := fun y hy => by
                obtain ⟨t, ht, rfl⟩ := List.mem_map.1 hy
                exact HL.out t (List.mem_of_mem_take ht)
              clear htk y0 y1 y2 hO hb
              generalize us[j].kind = kj at *
              generalize us[j].text = tj at *
              generalize zs j = zj at *
              generalize (us.take j).map Tok.text = xs at *
              have HLENJ := Lib.hid hlenj
              clear hlenj
              have hba : Below wr.heap.size wr ((wr.alloc (.cells #[.int .i64 kj, .string ⟨tj.toArray⟩, .int .i64 zj] 34)).alloc (.cells #[.string ⟨tj.toArray⟩] 9)) := ((Below.refl _ _).alloc (Nat.le_refl _) _).alloc (by simp) _
              have HBA := Lib.hid hba
              have HO2 : Hid (OwnS ((wr.alloc (.cells #[.int .i64 kj, .string ⟨tj.toArray⟩, .int .i64 zj] 34)).alloc (.cells #[.string ⟨tj.toArray⟩] 9)) 9 (.slice oa j ocap) q xs) := Own.below HO.out hba
              have hrow := OwnS.row HO2.out
              rw [HLENJ.out] at hrow
              have HROW := Lib.hid hrow
              clear hba hrow
              go_wp2_with (at_builtin; go_must (refine wpList_append_lies _ rfl _ _ 43 rfl 0 9 i0 _ 1 16 Tryd.underlying43 hi hz0 hz1 hz2 rfl (by decide) (.slice oa j ocap) _ _ rfl HROW.out ⟨wr.heap.size + 1, 0, none⟩ 1 1 [.string ⟨tj.toArray⟩] rfl rfl (World.news_of_block (by have := heap_alloc_new (wr.alloc (.cells #[.int .i64 kj, .string ⟨tj.toArray⟩, .int .i64 zj] 34)) (.cells #[.string ⟨tj.toArray⟩] 9); simpa using this)) (by simp [Value.oneCell']) (by omega) (by unfold maxLen; omega) (by omega) (Nat.zero_le _) (wr.heap.size + 1 + 1) (by simp) ?_); intro g cp w3 hown hgrow hat hglt; have hpu := OwnS.push tj HLJ.out HLS.out HO2.out (by rw [HLENJ.out]; exact hown) hgrow (by simpa using hat); have HPU := Lib.hid hpu; clear hpu hown hgrow hat)
              obtain ⟨g1, g2, g3⟩ := HPU.out
              rw [HLENJ.out] at g1
              refine ⟨⟨j + 1, some g, by go_num, by omega, by rw [HTK.out]; exact g1, fun k hk => ?_, HB.out.trans ((HBA.out.mono hbs).trans (g2.below (by have := HBA.out.size; omega) (fun k hk => HQ.out k hk)))⟩, by simp [intOf]; omega⟩
              cases hk
              rcases g3 with h | h
              · exact HQ.out _ h
              · rw [h]; simp; omega
            · obtain rfl : j = n := by omega
              have htk : us.take j = us := List.take_of_length_le (by rw [HLEN.out]; omega)
              rw [htk] at HO hlenj
              clear hO htk
              have hsj : Calls Tryd.prog 25 #[.slice oa j ocap, .string ⟨#[32]⟩] wr fun e w' => e = .returned (.string ⟨(spaced (us.map Tok.text)).toArray⟩) ∧ Below wr.heap.size wr w' := by
                by_cases hj0 : j = 0
                · subst hj0
                  have hnil : us = [] := List.length_eq_zero_iff.1 HLEN.out
                  rw [hnil]
                  exact (Tryd.strings_Join_none oa ocap ⟨#[32]⟩ wr).mono fun e w' ⟨h1, h2⟩ => ⟨h1, by rw [h2]; exact Below.refl _ _⟩
                · obtain ⟨g, cp, hgv, hgc, hgl, hgx⟩ := HO.out.read (by rw [hlenj]; omega)
                  rw [hlenj] at hgv hgc
                  simp only [Value.slice.injEq] at hgv
                  obtain ⟨rfl, _, rfl⟩ := hgv
                  have hmm : ((us.map Tok.text).map (fun l => (⟨l.toArray⟩ : ByteArray))).map (·.data.toList) = us.map Tok.text := by simp
                  have hj := Tryd.strings_Join g 0 ocap ((us.map Tok.text).map (fun l => (⟨l.toArray⟩ : ByteArray))) ⟨#[32]⟩ wr hgx hgl (by simp [HLEN.out]; omega) (by simpa [HLEN.out] using hgc) (by rw [hmm, show (⟨#[32]⟩ : ByteArray).data.toList = [32] from rfl, spaced_join]; exact hsp)
                  rw [hmm, show (⟨#[32]⟩ : ByteArray).data.toList = [32] from rfl, spaced_join] at hj
                  simpa [HLEN.out] using hj
              have HSJ := Lib.hid hsj
              clear hsj hlenj HO
              generalize spaced (us.map Tok.text) = sp at *
              by_cases hbig : 16384 < sp.length
              · have hbig' : decide ((16384 : Int) < (sp.length : Int)) = true := by simp; omega
                have hjf := HJ.out
                rw [if_pos hbig] at hjf
                have HJF := Lib.hid hjf
                clear hjf hbig
                go_wp2_with (go_at_call 25; refine HSJ.out.mono ?_; rintro e w4 ⟨rfl, hb4⟩)
                go_ret2
                exact JnPost.mk' HJF.out (BytesV.nil _) (HB.out.trans (hb4.mono hbs))
              · have hbig' : decide ((16384 : Int) < (sp.length : Int)) = false := by simp; omega
                have hjf := HJ.out
                rw [if_neg hbig] at hjf
                have HJF := Lib.hid hjf
                clear hjf hbig
                go_wp2_with (go_at_call 25; refine HSJ.out.mono ?_; rintro e w4 ⟨rfl, hb4⟩; have hcv := Lib.run_convert_string_bytes (P := Tryd.prog) w4 9 22 5 ⟨sp.toArray⟩ Tryd.underlying9 Tryd.underlying22 Tryd.underlying5; rw [size_mk] at hcv; have HB4 := Lib.hid (HB.out.trans (hb4.mono hbs)); clear hb4)
                go_ret2
                exact JnPost.mk' HJF.out ⟨_, _, _, _, rfl, SB.of_text w4 5 sp, grownCap_ge _ _ _ _⟩ (HB4.out.trans ((Lib.bytesWorld_below w4 5 ⟨sp.toArray⟩).mono HB4.out.size))
    · have HF := Lib.hid (HFA.out w (Below.refl _ _) (by simp [h4]))
      have h4' : (kd != 4) = true := by simpa using h4
      clear HFA HOK HCT h4
      go_enter Tryd.func14, Tryd.ntmps14
      go_wp2_with fail
      go_ret2
      exact HF.out
end Go.Proofs.YtpcbaokplifcoaaDoor
