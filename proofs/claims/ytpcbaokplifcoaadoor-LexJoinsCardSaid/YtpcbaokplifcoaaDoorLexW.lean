/- The reference: Few, Join. -/
import Derived.Test.YtpcbaokplifcoaaDoorLexS
import Derived.Test.YtpcbaokplifcoaaDoorLawRemarks
import Derived.Lib.AppendStr
import Derived.Deep.AppendLies
namespace Go.Chalk
open Go.RowKit Go.Proofs.YtpcbaokplifcoaaDoor
def FewPost (ts : List Tok) (w : World) (e : Ending) (w' : World) : Prop := ∃ f : Bool, e = .returned (.bool f) ∧ (f = true → ts.length ≤ 200 ∧ ∀ t ∈ ts, t.text.length ≤ 200) ∧ w' = w
theorem strCells_vbytes (l : Bs) : Lib.strCells ⟨l.toArray⟩ = vbytes l := by
  simp [Lib.strCells, vbytes]
theorem spaced_snoc : ∀ (xs : List Bs) (x : Bs), xs ≠ [] → spaced (xs ++ [x]) = spaced xs ++ 32 :: x
  | [], _, h => absurd rfl h
  | [y], x, _ => rfl
  | y :: z :: r, x, _ => by
    have := spaced_snoc (z :: r) x (by simp)
    simp only [List.cons_append, spaced] at this ⊢
    rw [this]; simp
theorem rowForm {w : World} {B : Nat} {e : TypeId} {v : Value} {n : Nat} {xs : List Value} (h : w.ownsRow B e 1 v n xs) : ∃ a cap, v = .slice a n cap := by
  rcases h.2 with ⟨rfl, hn⟩ | ⟨g, cap, cur, rfl, _⟩
  · exact ⟨none, 0, by rw [hn]⟩
  · exact ⟨_, cap, rfl⟩
theorem rowBelow {w w' : World} {B : Nat} {e : TypeId} {sz : Nat} {v : Value} {n : Nat} {xs : List Value} (h : w.ownsRow B e sz v n xs) (hb : Below w.heap.size w w') : w'.ownsRow B e sz v n xs := by
  obtain ⟨h1, h2⟩ := h
  refine ⟨h1, ?_⟩
  rcases h2 with h2 | ⟨g, cap, cur, hv, hg, hh, rest⟩
  · exact .inl h2
  · exact .inr ⟨g, cap, cur, hv, hg, (hb.block g (Array.getElem?_eq_some_iff.1 hh).1).trans hh, rest⟩
theorem grownBelow {w w' : World} {B : Nat} {e : TypeId} {sz : Nat} {v : Value} {n : Nat} {xs : List Value} (h : w.ownsRow B e sz v n xs) (hg : w.grownBy w' v.ownBlock) (hB : B ≤ w.heap.size) : Below B w w' :=
  (Mod.of_grown (S := fun k => v.ownBlock = some k) hg (fun k hk => hk)).below hB (fun k hk => (h.lt k hk).1)
theorem bytesV_row {w : World} {B : Nat} {e : TypeId} {v : Value} {n : Nat} {l : Bs} (h : w.ownsRow B e 1 v n (vbytes l)) (hn : n = l.length) : BytesV w v l := by
  subst hn
  have h1' := h
  obtain ⟨hlen, h2⟩ := h
  rcases h2 with ⟨rfl, h0⟩ | ⟨g, cap, cur, rfl, _, hh, hc1, hc2, hc3, hc4⟩
  · obtain rfl : l = [] := List.length_eq_zero_iff.1 h0
    exact BytesV.nil w
  · refine ⟨_, g, 0, cap, rfl, ⟨fun _ => ⟨rfl, (Array.getElem?_eq_some_iff.1 hh).1⟩, fun i hi => ?_⟩, hc1⟩
    have := h1'.cellAt (g := g) (cap := cap) i (by simpa using hi)
    simp only [Nat.zero_add]
    rw [this]
    simp [vbytes, hi]
theorem spaced_prefix : ∀ (xs ys : List Bs), (spaced xs).length ≤ (spaced (xs ++ ys)).length
  | [], _ => Nat.zero_le _
  | [x], [] => Nat.le_refl _
  | [x], y :: r => by show x.length ≤ (x ++ 32 :: spaced (y :: r)).length; simp
  | x :: y :: r, ys => by
    have := spaced_prefix (y :: r) ys
    show (x ++ 32 :: spaced (y :: r)).length ≤ (x ++ 32 :: spaced (y :: r ++ ys)).length
    simp only [List.length_append, List.length_cons]
    omega
theorem vbytes_append (a b : Bs) : vbytes (a ++ b) = vbytes a ++ vbytes b := by simp [vbytes]
theorem spaced_one (x : Bs) : spaced ([] ++ [x]) = x := rfl
end Go.Chalk
namespace Go.Proofs.YtpcbaokplifcoaaDoor
open Go.RowKit Go.Chalk

set_option maxRecDepth 100000 in
theorem few_any (ts : List Tok) (zs : Nat → Int) (a : Option Addr) (b o cap : Nat) (w : World) (hv : TksV w w.heap.size ts zs a b o) (hmax : ts.length ≤ maxLen) (hl : ∀ t ∈ ts, t.text.length ≤ maxLen) :
    Calls Tryd.prog 13 #[.slice a ts.length cap] w (FewPost ts w) := by
  unfold maxLen at hmax hl
  have HV := Lib.hid hv
  have HL := Lib.hid hl
  clear hv hl
  go_enter Tryd.func13, Tryd.ntmps13
  go_wp2_with fail
  go_loop [3] (fun i => ∃ j : Nat, i = .int .i64 j ∧ j ≤ ts.length ∧ j ≤ 201 ∧ Hid (∀ t ∈ ts.take j, t.text.length ≤ 200)) (fun i => 201 - (intOf i).toNat)
  case atStart => exact ⟨0, rfl, Nat.zero_le _, by omega, fun t ht => by simp at ht⟩
  case round =>
    obtain ⟨j, rfl, hj, hj2, HA⟩ := hrel
    by_cases hlt : j < ts.length
    · have h1 : decide (j < ts.length) = true := by simpa using hlt
      by_cases h200 : j ≤ 200
      · have h2 : decide ((j : Int) ≤ 200) = true := by simp; omega
        obtain ⟨rfl, hbl⟩ := HV.out.1 (by omega)
        obtain ⟨_, y1, _⟩ := HV.out.2 j hlt
        have hsz := HL.out _ (List.getElem_mem hlt)
        have HTK : Hid (ts[j].text.length ≤ 200 → ∀ t ∈ ts.take (j + 1), t.text.length ≤ 200) := fun h t ht => by
          rw [List.take_succ_eq_append_getElem hlt] at ht
          rcases List.mem_append.1 ht with ht | ht
          · exact HA.out t ht
          · simp at ht; subst ht; exact h
        generalize ts[j].text = tx at *
        by_cases hbig : 200 < tx.length
        · have h3 : decide ((200 : Int) < (tx.length : Int)) = true := by simp; omega
          go_wp2_with fail
          go_ret
          exact ⟨false, rfl, (fun h => by cases h), rfl⟩
        · have h3 : decide ((200 : Int) < (tx.length : Int)) = false := by simp; omega
          go_wp2_with fail
          go_round
          case rel => exact ⟨j + 1, by go_num, by omega, by omega, HTK.out (by omega)⟩
          case measure => simp [intOf]; omega
      · have h2 : decide ((j : Int) ≤ 200) = false := by simp; omega
        have h4 : decide ((ts.length : Int) ≤ 200) = false := by simp; omega
        go_wp2_with fail
        go_ret
        exact ⟨false, by rfl, (fun h => by cases h), rfl⟩
    · have h1 : decide (j < ts.length) = false := by simpa using hlt
      have HALL : Hid (∀ t ∈ ts, t.text.length ≤ 200) := by
        have := HA.out
        rwa [List.take_of_length_le (by omega)] at this
      have HFIN : Hid (∀ f : Bool, f = decide ((ts.length : Int) ≤ 200) → FewPost ts w (.returned (.bool f)) w) := fun f hf => ⟨f, rfl, fun h => ⟨by rw [hf] at h; simp at h; omega, HALL.out⟩, rfl⟩
      go_wp2_with fail
      go_ret
      exact HFIN.out _ rfl

set_option maxRecDepth 100000 in
set_option maxHeartbeats 1000000 in
theorem joinR_any (ts : List Tok) (zs : Nat → Int) (a : Option Addr) (b o cap : Nat) (w : World) (hv : TksV w w.heap.size ts zs a b o) (hcap : ts.length ≤ cap) (hl : ∀ t ∈ ts, t.text.length ≤ 281474976710656) (hmax : ts.length ≤ 1000000)
    (hsp : (spaced ((ts.take (ts.length - 1)).map Tok.text)).length ≤ 140737488355328) :
    Calls Tryd.prog 15 #[.slice a ts.length cap] w (JnPost w ts) := by
  by_cases h0 : ts.length = 0
  · have hnil : ts = [] := List.length_eq_zero_iff.1 h0
    subst hnil
    have HF := Lib.hid (JnPost.mk' (w := w) (w' := w) (ts := []) (v := .slice none 0 0) (r := []) (er := 1) rfl (BytesV.nil w) (Below.refl _ _))
    rw [h0]
    clear hv hl
    go_enter Tryd.func15, Tryd.ntmps15
    go_wp2_with fail
    go_ret2
    exact HF.out
  · have hpos : 0 < ts.length := by omega
    have hjf := joinF_last hpos
    obtain ⟨rfl, hbl⟩ := hv.1 hpos
    obtain ⟨x0, x1, x2⟩ := hv.2 (ts.length - 1) (by omega)
    have HV := Lib.hid (hv.take (ts.length - 1))
    have HL : Hid (∀ t ∈ ts.take (ts.length - 1), t.text.length ≤ 281474976710656) := fun t ht => hl t (List.mem_of_mem_take ht)
    have hlen : (ts.take (ts.length - 1)).length = ts.length - 1 := by rw [List.length_take]; omega
    have HFA : Hid (∀ W : World, Below w.heap.size w W → ¬ ((ts[ts.length - 1]).kind = 4 ∧ (ts[ts.length - 1]).text = [] ∧ ((ts.take (ts.length - 1)).all rightB) = true) → JnPost w ts (.returned (.tuple #[.slice none 0 0, .int .i64 1])) W) := fun W hb hn => JnPost.mk' (by rw [hjf, if_neg hn]) (BytesV.nil W) hb
    have HOK : Hid ((ts[ts.length - 1]).kind = 4 ∧ (ts[ts.length - 1]).text = [] ∧ ((ts.take (ts.length - 1)).all rightB) = true → joinF ts = if 16384 < (spaced ((ts.take (ts.length - 1)).map Tok.text)).length then ([], 2) else (spaced ((ts.take (ts.length - 1)).map Tok.text), 0)) := fun h => by rw [hjf, if_pos h]
    generalize htk : ts.take (ts.length - 1) = us at *
    generalize hkd : (ts[ts.length - 1]).kind = kd at *
    generalize htx : (ts[ts.length - 1]).text = tx at *
    clear hjf hl hv htk hkd htx x2
    obtain ⟨n, hn⟩ : ∃ n, ts.length = n + 1 := ⟨ts.length - 1, by omega⟩
    have hn' : ts.length - 1 = n := by omega
    rw [hn'] at x0 x1 hlen
    rw [hn] at hcap hmax ⊢
    have HLEN := Lib.hid hlen
    clear hlen hn hn' h0 hpos
    have hn0 : ((n : Int) + 1 == 0) = false := by simp; omega
    by_cases h4 : kd = 4
    · subst h4
      cases tx with
      | cons c r =>
        have HF := Lib.hid (HFA.out w (Below.refl _ _) (by simp))
        clear HFA HOK
        go_enter Tryd.func15, Tryd.ntmps15
        go_wp2_with fail
        go_ret2
        exact HF.out
      | nil =>
        go_enter Tryd.func15, Tryd.ntmps15
        go_wp2_with fail
        obtain ⟨i0, hi, hz0, hz1, hz2⟩ := info_parts byte_info
        have HPB := Lib.hid (fun (W : World) (h : Below w.heap.size w W) (t : Tok) (z : Int) (hl : t.text.length ≤ 281474976710656) => may_any t z W hl)
        go_loopw [38, 5] (fun i _ wr => ∃ j : Nat, i = .int .i64 j ∧ j ≤ n ∧ Hid ((us.take j).all rightB = true) ∧ Below w.heap.size w wr) (fun i _ _ => n - (intOf i).toNat)
        case atStart => exact ⟨0, rfl, Nat.zero_le _, rfl, Below.refl _ _⟩
        case round =>
          obtain ⟨j, rfl, hj, HA, hb⟩ := hrel
          have hbs := hb.size
          have HB := Lib.hid hb
          by_cases hlt : j < n
          · have hjl : j < us.length := by rw [HLEN.out]; exact hlt
            obtain ⟨y0, y1, y2⟩ := HV.out.2 j hjl
            have z0 := (hb.cell (p := ⟨b, o + j * 3, none⟩) hbl).trans y0
            have z1 := (hb.cell (p := ⟨b, o + j * 3 + 1, none⟩) hbl).trans y1
            have z2 := (hb.cell (p := ⟨b, o + j * 3 + 2, none⟩) hbl).trans y2
            have HT : Hid ((us.take (j + 1)).all rightB = rightB us[j]) := by
              show _ = _
              rw [List.take_succ_eq_append_getElem hjl, List.all_append, HA.out]; simp
            have HNB : Hid (rightB us[j] = false → us.all rightB = false) := fun h => List.all_eq_false.2 ⟨us[j], List.getElem_mem hjl, by simp [h]⟩
            have hbx : Below wr.heap.size wr (wr.alloc (.cells #[.int .i64 us[j].kind, .string ⟨us[j].text.toArray⟩, .int .i64 (zs j)] 34)) := (Below.refl _ _).alloc (Nat.le_refl _) _
            have HMY := Lib.hid (may_any us[j] (zs j) (wr.alloc (.cells #[.int .i64 us[j].kind, .string ⟨us[j].text.toArray⟩, .int .i64 (zs j)] 34)) (HL.out _ (List.getElem_mem hjl)))
            have HBX := Lib.hid hbx
            generalize us[j].kind = kj at *
            generalize (⟨us[j].text.toArray⟩ : ByteArray) = tj at *
            generalize zs j = zj at *
            clear hb hbx y0 y1 y2
            cases hr : rightB us[j]
            · rw [hr] at HMY HNB
              have HF := Lib.hid (fun W hW => HFA.out W hW (by
                intro h
                have := HNB.out (by first | rfl | trivial)
                rw [this] at h
                simp at h))
              clear hr
              go_wp2_with (go_at_call 26; refine HMY.out.mono ?_; rintro e w2 ⟨rfl, hb2⟩; have HB2 := Lib.hid (HB.out.trans ((HBX.out.mono hbs).trans (hb2.mono (by have := HBX.out.size; omega)))); clear hb2)
              go_ret2
              exact HF.out _ HB2.out
            · rw [hr] at HMY HT
              clear hr
              go_wp2_with (go_at_call 26; refine HMY.out.mono ?_; rintro e w2 ⟨rfl, hb2⟩; have HB2 := Lib.hid (HB.out.trans ((HBX.out.mono hbs).trans (hb2.mono (by have := HBX.out.size; omega)))); clear hb2)
              exact ⟨⟨j + 1, by go_num, by omega, HT.out, HB2.out⟩, by simp [intOf]; omega⟩
          · obtain rfl : j = n := by omega
            have hall := HA.out
            rw [List.take_of_length_le (by rw [HLEN.out]; omega)] at hall
            have HJF := Lib.hid (HOK.out ⟨by first | rfl | trivial, by first | rfl | trivial, hall⟩)
            clear hall HFA HOK hb
            obtain ⟨wo, rfl⟩ : ∃ wo : World, wo = wr := ⟨_, rfl⟩
            go_wp2_with fail
            go_loopw [52, 6, 7, 8] (fun i ov _ _ wr => ∃ (k m : Nat), i = .int .i64 k ∧ k ≤ j ∧ Hid (m = (spaced ((us.take k).map Tok.text)).length) ∧ wr.ownsRow w.heap.size 5 1 ov m (vbytes (spaced ((us.take k).map Tok.text))) ∧ Below w.heap.size w wr) (fun i _ _ _ _ => j - (intOf i).toNat)
            case atStart => exact ⟨0, 0, rfl, Nat.zero_le _, rfl, World.ownsRow_nil _ _ _ _, HB.out⟩
            case round =>
              obtain ⟨k, m, rfl, hk, HM, hO, hb⟩ := hrel
              have HO := Lib.hid hO
              have HB2 := Lib.hid hb
              have hbs2 := hb.size
              obtain ⟨oa, ocap, rfl⟩ := rowForm hO
              by_cases hkj : k < j
              · have hkl : k < us.length := by rw [HLEN.out]; exact hkj
                obtain ⟨y0, y1, y2⟩ := HV.out.2 k hkl
                have z0 := (hb.cell (p := ⟨b, o + k * 3, none⟩) hbl).trans y0
                have z1 := (hb.cell (p := ⟨b, o + k * 3 + 1, none⟩) hbl).trans y1
                have z2 := (hb.cell (p := ⟨b, o + k * 3 + 2, none⟩) hbl).trans y2
                have htk : (us.take (k + 1)).map Tok.text = (us.take k).map Tok.text ++ [us[k].text] := by rw [List.take_succ_eq_append_getElem hkl, List.map_append]; rfl
                have hnil : (us.take k).map Tok.text = [] ↔ k = 0 := by
                  rw [List.map_eq_nil_iff, ← List.length_eq_zero_iff, List.length_take, HLEN.out]; omega
                have hfit : (spaced ((us.take (k + 1)).map Tok.text)).length ≤ 140737488355328 := by
                  refine Nat.le_trans ?_ hsp
                  have := spaced_prefix ((us.take (k + 1)).map Tok.text) ((us.drop (k + 1)).map Tok.text)
                  rwa [← List.map_append, List.take_append_drop] at this
                rw [htk] at hfit
                generalize us[k].kind = kj at *
                generalize us[k].text = tj at *
                generalize zs k = zj at *
                generalize (us.take k).map Tok.text = xs at *
                have hbx : Below wr.heap.size wr (wr.alloc (.cells #[.int .i64 kj, .string ⟨tj.toArray⟩, .int .i64 zj] 34)) := (Below.refl _ _).alloc (Nat.le_refl _) _
                have HBX := Lib.hid hbx
                have HOX := Lib.hid (rowBelow HO.out hbx)
                have HTK := Lib.hid htk
                have hszt : (⟨tj.toArray⟩ : ByteArray).size = tj.length := size_mk tj
                have HSZ := Lib.hid hszt
                have hmm := HM.out
                clear hO hb hbx htk y0 y1 y2 hszt
                by_cases hk0 : k = 0
                · have hx := hnil.2 hk0
                  subst hx
                  have hd0 : decide ((0 : Int) < (k : Int)) = false := by simp; omega
                  have hd1 : decide (0 < k) = false := by simp; omega
                  have hfit2 : m + tj.length ≤ 140737488355328 := by rw [hmm]; simpa [spaced] using hfit
                  have hv0 : vbytes (spaced []) = [] := rfl
                  rw [hv0] at HOX
                  clear hnil hfit hmm hv0 hk0
                  go_wp2_with (at_builtin; go_must (refine Lib.wpList_append_own_string _ rfl _ _ 22 9 rfl w.heap.size 5 i0 Tryd.underlying22 Tryd.underlying9 hi hz0 hz1 hz2 (.slice oa m ocap) m [] rfl HOX.out ⟨tj.toArray⟩ rfl (by rw [HSZ.out]; unfold maxLen; omega) (by rw [HSZ.out]; exact hfit2) (by simp; omega) ?_); intro v' w5 hown hgrow hat; rw [HSZ.out, strCells_vbytes] at hown; have HO5 := Lib.hid hown; have HG5 := Lib.hid (grownBelow HOX.out hgrow (by simp; omega)); clear hown hgrow hat)
                  obtain ⟨va, vcap, hvv⟩ := rowForm HO5.out
                  subst hvv
                  refine ⟨⟨k + 1, m + tj.length, by go_num, by omega, ?_, ?_, HB2.out.trans ((HBX.out.mono hbs2).trans HG5.out)⟩, by simp [intOf]; omega⟩
                  · show _ = _
                    rw [HTK.out, HM.out]; simp [spaced]
                  · rw [HTK.out]; exact HO5.out
                · have hx : xs ≠ [] := fun h => hk0 (hnil.1 h)
                  have HSN := Lib.hid (spaced_snoc xs tj hx)
                  have hd0 : decide ((0 : Int) < (k : Int)) = true := by simp; omega
                  have hd1 : decide (0 < k) = true := by simp; omega
                  have hfit2 : m + 1 + tj.length ≤ 140737488355328 := by
                    rw [HSN.out] at hfit
                    simp only [List.length_append, List.length_cons] at hfit
                    omega
                  have hby : Below wr.heap.size wr ((wr.alloc (.cells #[.int .i64 kj, .string ⟨tj.toArray⟩, .int .i64 zj] 34)).alloc (.cells #[.int .u8 32] 5)) := HBX.out.alloc (by simp) _
                  have HBY := Lib.hid hby
                  have HOY := Lib.hid (rowBelow HO.out hby)
                  have HNW : Hid (((wr.alloc (.cells #[.int .i64 kj, .string ⟨tj.toArray⟩, .int .i64 zj] 34)).alloc (.cells #[.int .u8 32] 5)).heap[wr.heap.size + 1]? = some (.cells #[.int .u8 32] 5 (0, 0))) := by
                    have := heap_alloc_new (wr.alloc (.cells #[.int .i64 kj, .string ⟨tj.toArray⟩, .int .i64 zj] 34)) (.cells #[.int .u8 32] 5)
                    rw [World.size_alloc] at this
                    exact this
                  have HBK : Hid (((wr.alloc (.cells #[.int .i64 kj, .string ⟨tj.toArray⟩, .int .i64 zj] 34)).alloc (.cells #[.int .u8 32] 5)).heap[wr.heap.size]? = some (.cells #[.int .i64 kj, .string ⟨tj.toArray⟩, .int .i64 zj] 34 (0, 0))) := (Below.heap_alloc _ _ _ (by simp)).trans (heap_alloc_new _ _)
                  clear hnil hfit hmm hk0 hx hby
                  go_upto_region 15 with (at_builtin; go_must (refine wpList_append_lies _ rfl _ _ 22 rfl w.heap.size 5 i0 _ 1 1 Tryd.underlying22 hi hz0 hz1 hz2 rfl (by decide) (.slice oa m ocap) _ _ rfl HOY.out ⟨wr.heap.size + 1, 0, none⟩ 1 1 [.int .u8 32] rfl rfl (World.news_of_block HNW.out) (by simp [Value.oneCell']) (by omega) (by unfold maxLen; omega) (by omega) (by simp; omega) (wr.heap.size + 1 + 1) (by simp) ?_); intro g cp w5 hown hgrow hat hglt; have HO5 := Lib.hid hown; have HG5 := Lib.hid (grownBelow HOY.out hgrow (by simp; omega)); have HGR := Lib.hid hgrow; have HLT := Lib.hid HO.out.lt; clear hown hgrow hat)
                  have hblk := ((Mod.of_grown (S := fun k => (Value.slice oa m ocap).ownBlock = some k) HGR.out (fun k hk => hk)).block wr.heap.size (by simp; omega) (fun h => by have := (HLT.out _ h).2; omega)).trans HBK.out
                  have x1 : w5.cell? ⟨wr.heap.size, 1, none⟩ = some (.string ⟨tj.toArray⟩) := cell_of_heap hblk rfl
                  have hs5 : wr.heap.size < w5.heap.size := (Array.getElem?_eq_some_iff.1 hblk).1
                  clear hblk
                  go_wp2_with (at_builtin; go_must (refine Lib.wpList_append_own_string _ rfl _ _ 22 9 rfl w.heap.size 5 i0 Tryd.underlying22 Tryd.underlying9 hi hz0 hz1 hz2 (.slice (some ⟨g, 0, none⟩) (m + 1) cp) (m + 1) _ rfl HO5.out ⟨tj.toArray⟩ rfl (by rw [HSZ.out]; unfold maxLen; omega) (by rw [HSZ.out]; exact hfit2) (by omega) ?_); intro v' w6 hown hgrow hat; rw [HSZ.out, strCells_vbytes] at hown; have HO6 := Lib.hid hown; have HG6 := Lib.hid (grownBelow HO5.out hgrow (by omega)); clear hown hgrow hat)
                  obtain ⟨va, vcap, hvv⟩ := rowForm HO6.out
                  subst hvv
                  refine ⟨⟨k + 1, m + 1 + tj.length, by go_num, by omega, ?_, ?_, HB2.out.trans ((HBY.out.mono hbs2).trans (HG5.out.trans HG6.out))⟩, by simp [intOf]; omega⟩
                  · show _ = _
                    rw [HTK.out, HSN.out, HM.out]; simp; omega
                  · rw [HTK.out, HSN.out]
                    have := HO6.out
                    rw [show vbytes (spaced xs ++ 32 :: tj) = vbytes (spaced xs) ++ [.int .u8 32] ++ vbytes tj from by simp [vbytes]]
                    exact this
              · obtain rfl : k = j := by omega
                have htk : us.take k = us := List.take_of_length_le (by rw [HLEN.out]; omega)
                rw [htk] at HO HM
                have hml := HM.out
                clear hO htk HM
                by_cases hbig : 16384 < m
                · have hbig' : decide ((16384 : Int) < (m : Int)) = true := by simp; omega
                  have hjf := HJF.out
                  rw [if_pos (by omega)] at hjf
                  have HFIN := Lib.hid (JnPost.mk' (w := w) (w' := wr) (v := .slice none 0 0) hjf (BytesV.nil _) hb)
                  clear hjf hml hb
                  go_wp2_with fail
                  go_ret2
                  exact HFIN.out
                · have hbig' : decide ((16384 : Int) < (m : Int)) = false := by simp; omega
                  have hjf := HJF.out
                  rw [if_neg (by omega)] at hjf
                  have HFIN := Lib.hid (JnPost.mk' (w := w) (w' := wr) (v := .slice oa m ocap) hjf (bytesV_row HO.out hml) hb)
                  clear hjf hml hb
                  go_wp2_with fail
                  go_ret2
                  exact HFIN.out
    · have HF := Lib.hid (HFA.out w (Below.refl _ _) (by simp [h4]))
      have h4' : (kd != 4) = true := by simpa using h4
      clear HFA HOK h4
      go_enter Tryd.func15, Tryd.ntmps15
      go_wp2_with fail
      go_ret2
      exact HF.out
end Go.Proofs.YtpcbaokplifcoaaDoor
