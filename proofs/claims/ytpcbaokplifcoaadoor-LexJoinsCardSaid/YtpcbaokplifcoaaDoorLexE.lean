/- lex.right; slices.ContainsFunc over tokens; lex.Join. -/
import Derived.Test.YtpcbaokplifcoaaDoorLexD
namespace Go.Chalk
open Go.RowKit Go.Proofs.YtpcbaokplifcoaaDoor

theorem SB.of_text (w : World) (e : TypeId) (l : Bs) : SB (Lib.bytesWorld w e ⟨l.toArray⟩) (Lib.bytesWorld w e ⟨l.toArray⟩).heap.size l (some ⟨w.heap.size, 0, none⟩) w.heap.size 0 := by
  refine ⟨fun _ => ⟨rfl, by rw [Lib.bytesWorld_size]; omega⟩, fun i hi => ?_⟩
  have := Lib.bytesWorld_cell w e ⟨l.toArray⟩ i (by rw [size_mk]; exact hi)
  rw [Nat.zero_add, this]
  simp [List.getD, hi]
/-- Bytes that a call gives. -/
def BytesV (w : World) (v : Value) (l : Bs) : Prop := ∃ a b o cap, v = .slice a l.length cap ∧ SB w w.heap.size l a b o ∧ l.length ≤ cap
theorem BytesV.below {w w' : World} {v : Value} {l : Bs} (h : BytesV w v l) (hb : Below w.heap.size w w') : BytesV w' v l := by
  obtain ⟨a, b, o, cap, rfl, h1, h2⟩ := h
  exact ⟨a, b, o, cap, rfl, h1.below hb hb.size, h2⟩
theorem BytesV.nil (w : World) : BytesV w (.slice none 0 0) [] := ⟨none, 0, 0, 0, rfl, ⟨fun h => by simp at h, fun i hi => by simp at hi⟩, Nat.le_refl _⟩

/-- Tokens in memory: the i-th third cell holds zs i. -/
def TksAt (w : World) (ts : List Tok) (zs : Nat → Int) (b o : Nat) : Prop := ∀ i (h : i < ts.length), w.cell? ⟨b, o + i * 3, none⟩ = some (.int .i64 ts[i].kind) ∧ w.cell? ⟨b, o + i * 3 + 1, none⟩ = some (.string ⟨ts[i].text.toArray⟩) ∧ w.cell? ⟨b, o + i * 3 + 2, none⟩ = some (.int .i64 (zs i))
/-- A slice of tokens that is read. -/
def TksV (w : World) (B : Nat) (ts : List Tok) (zs : Nat → Int) (a : Option Addr) (b o : Nat) : Prop := SlAt (· < B) a b o ts.length ∧ TksAt w ts zs b o
theorem TksV.below {w w' : World} {B C : Nat} {ts : List Tok} {zs : Nat → Int} {a : Option Addr} {b o : Nat} (h : TksV w B ts zs a b o) (hb : Below B w w') (hC : B ≤ C) : TksV w' C ts zs a b o := by
  refine ⟨h.1.mono (fun k hk => Nat.lt_of_lt_of_le hk hC), fun i hi => ?_⟩
  have hl := (h.1 (by omega)).2
  obtain ⟨h1, h2, h3⟩ := h.2 i hi
  exact ⟨(hb.cell (p := ⟨b, o + i * 3, none⟩) hl).trans h1, (hb.cell (p := ⟨b, o + i * 3 + 1, none⟩) hl).trans h2, (hb.cell (p := ⟨b, o + i * 3 + 2, none⟩) hl).trans h3⟩
theorem TksV.take {w : World} {B : Nat} {ts : List Tok} {zs : Nat → Int} {a : Option Addr} {b o : Nat} (h : TksV w B ts zs a b o) (n : Nat) : TksV w B (ts.take n) zs a b o := by
  refine ⟨fun hp => h.1 (by rw [List.length_take] at hp; omega), fun i hi => ?_⟩
  rw [List.length_take] at hi
  have := h.2 i (by omega)
  rwa [List.getElem_take]

/-- A sign is what is its own first sign. -/
theorem sign_self (l : Bs) : signsL.contains l = (!l.isEmpty && signB l == l) := by
  rw [Bool.eq_iff_iff]
  constructor
  · intro h
    have : ∀ s ∈ signsL, (!s.isEmpty && signB s == s) = true := by decide
    exact this l (by simpa using h)
  · intro h
    simp only [Bool.and_eq_true, Bool.not_eq_true', beq_iff_eq, List.isEmpty_eq_false_iff] at h
    obtain ⟨h1, h2⟩ := h
    unfold signB at h2
    cases hf : signsL.find? (fun s => s.isPrefixOf l) with
    | none => rw [hf] at h2; exact absurd h2.symm h1
    | some s =>
      rw [hf] at h2
      simp only [Option.getD_some] at h2
      have := List.mem_of_find?_eq_some hf
      rw [h2] at this
      simpa using this
theorem spaced_join : ∀ xs : List Bs, Lib.join xs [32] = spaced xs
  | [] => rfl
  | [x] => by rw [Lib.join_one]; rfl
  | x :: y :: r => by
    have h := spaced_join (y :: r)
    rw [Lib.join_cons] at h ⊢
    rw [spaced, ← h]
    simp [Lib.joinTail]
end Go.Chalk
namespace Go.Proofs.YtpcbaokplifcoaaDoor
open Go.RowKit Go.Chalk

set_option maxRecDepth 100000 in
set_option maxHeartbeats 1000000 in
theorem right_any (t : Tok) (z : Int) (w : World) (hl : t.text.length ≤ 281474976710656) (hg : GAt w) :
    Calls Tryd.prog 24 #[.agg #[.int .i64 t.kind, .string ⟨t.text.toArray⟩, .int .i64 z]] w fun e w' => e = .returned (.bool (rightB t)) ∧ Below w.heap.size w w' := by
  obtain ⟨kd, tx, pp⟩ := t
  simp only at hl ⊢
  have hcv := Lib.run_convert_string_bytes (P := Tryd.prog) (w.alloc (.cells #[.int .i64 kd, .string ⟨tx.toArray⟩, .int .i64 z] 34)) 9 22 5 ⟨tx.toArray⟩ Tryd.underlying9 Tryd.underlying22 Tryd.underlying5
  rw [size_mk] at hcv
  have hsb := SB.of_text (w.alloc (.cells #[.int .i64 kd, .string ⟨tx.toArray⟩, .int .i64 z] 34)) 5 tx
  have hbw := Lib.bytesWorld_below (w.alloc (.cells #[.int .i64 kd, .string ⟨tx.toArray⟩, .int .i64 z] 34)) 5 ⟨tx.toArray⟩
  have hge := grownCap_ge (w.alloc (.cells #[.int .i64 kd, .string ⟨tx.toArray⟩, .int .i64 z] 34)) tx.length 0 5
  generalize Lib.bytesWorld (w.alloc (.cells #[.int .i64 kd, .string ⟨tx.toArray⟩, .int .i64 z] 34)) 5 ⟨tx.toArray⟩ = w1 at *
  generalize grownCap (w.alloc (.cells #[.int .i64 kd, .string ⟨tx.toArray⟩, .int .i64 z] 34)) tx.length 0 5 = cap at *
  have hblk := boxed hbw (by simp)
  have hb1 := Below.ahead hbw (by simp)
  have x0 : w1.cell? ⟨w.heap.size, 0, none⟩ = some (.int .i64 kd) := cell_of_heap hblk rfl
  have x1 : w1.cell? ⟨w.heap.size, 1, none⟩ = some (.string ⟨tx.toArray⟩) := cell_of_heap hblk rfl
  have hsz : (w.alloc (.cells #[.int .i64 kd, .string ⟨tx.toArray⟩, .int .i64 z] 34)).heap.size = w.heap.size + 1 := by simp
  rw [hsz] at hsb hcv
  have HSB := Lib.hid hsb
  have HB1 := Lib.hid hb1
  have hg1 := hg.below hb1
  have HW := Lib.hid (word_any tx _ _ 0 cap w1 hsb hl)
  have HN := Lib.hid (numeral_any tx _ _ 0 cap w1 hsb hl hg1)
  have HSI := Lib.hid (sign_any tx _ _ 0 cap w1.drew (hsb.below (below_undrew (Below.refl _ _)) (Nat.le_refl _)) hge hl (hg1.below (below_undrew (Below.refl _ _))))
  have HSS := Lib.hid (sign_self tx)
  have HX1 := Lib.hid x1
  have hlt := World.block_lt_of_cell? _ _ x0
  clear hsb hbw hblk hb1 hg1 hg hsz hge
  by_cases h1 : kd = 1
  · subst h1
    rw [show rightB ⟨1, tx, pp⟩ = wordB tx from rfl]
    go_enter Tryd.func24, Tryd.ntmps24
    go_wp2_with (go_at_call 29; refine HW.out.mono ?_; rintro e w2 ⟨rfl, hb2⟩; have HB2 := Lib.hid (HB1.out.trans (hb2.mono HB1.out.size)); clear hb2)
    go_ret
    exact ⟨rfl, HB2.out⟩
  · by_cases h2 : kd = 2
    · subst h2
      rw [show rightB ⟨2, tx, pp⟩ = numB tx from rfl]
      go_enter Tryd.func24, Tryd.ntmps24
      go_wp2_with (go_at_call 30; refine HN.out.mono ?_; rintro e w2 ⟨rfl, hb2⟩; have HB2 := Lib.hid (HB1.out.trans (hb2.mono HB1.out.size)); clear hb2)
      go_ret
      exact ⟨rfl, HB2.out⟩
    · by_cases h3 : kd = 3
      · subst h3
        rw [show rightB ⟨3, tx, pp⟩ = signsL.contains tx from rfl, HSS.out]
        clear h1 h2
        cases tx with
        | nil =>
          go_enter Tryd.func24, Tryd.ntmps24
          go_wp2_with fail
          first | (go_region_with fail) | fail
          all_goals
            go_wp2_with fail
            go_ret
            exact ⟨rfl, below_undrew HB1.out⟩
        | cons c r =>
          have hpos : decide ((0 : Int) < ((c :: r).length : Int)) = true := by simp
          generalize hbe : (signB (c :: r) == (c :: r)) = be at *
          have HBE := Lib.hid hbe
          clear hbe
          generalize hsg : signB (c :: r) = sg at *
          rw [show (!(c :: r).isEmpty && be) = be from by simp]
          generalize hcr : (c :: r) = tx at *
          clear hcr hsg
          have hpos1 : 0 < tx.length := by simpa using hpos
          generalize hn : tx.length = n at *
          have hpos2 : (0 : Int) < (n : Int) := by omega
          have hpos3 : decide (0 < n) = true := by simpa using hpos1
          clear hn
          go_enter Tryd.func24, Tryd.ntmps24
          go_wp2_with fail
          go_region_with (go_at_call 31; refine HSI.out.mono ?_; rintro e w2 ⟨rfl, hb2⟩; have x2 : w2.cell? ⟨w.heap.size, 1, none⟩ = some (.string ⟨tx.toArray⟩) := (hb2.cell (p := ⟨w.heap.size, 1, none⟩) hlt).trans HX1.out; have HB2 := Lib.hid ((below_undrew HB1.out).trans (hb2.mono HB1.out.size)); clear hb2)
          all_goals
            go_wp2_with fail
            go_ret
            exact ⟨by rw [← HBE.out]; rfl, HB2.out⟩
      · have hf : rightB ⟨kd, tx, pp⟩ = false := by simp [rightB, h1, h2, h3]
        rw [hf]
        have e1 : (kd == 1) = false := by simp [h1]
        have e2 : (kd == 2) = false := by simp [h2]
        have e3 : (kd == 3) = false := by simp [h3]
        clear hf h1 h2 h3
        go_enter Tryd.func24, Tryd.ntmps24
        go_wp2_with fail
        go_ret
        exact ⟨rfl, HB1.out⟩

theorem joinC_any (t : Tok) (z : Int) (w : World) (hl : t.text.length ≤ 281474976710656) (hg : GAt w) :
    Calls Tryd.prog 23 #[.agg #[.int .i64 t.kind, .string ⟨t.text.toArray⟩, .int .i64 z]] w fun e w' => e = .returned (.bool (!rightB t)) ∧ Below w.heap.size w w' := by
  have hba : Below w.heap.size w (w.alloc (.cells #[.int .i64 t.kind, .string ⟨t.text.toArray⟩, .int .i64 z] 34)) := (Below.refl _ _).alloc (Nat.le_refl _) _
  have HR := Lib.hid (right_any t z _ hl (hg.below hba))
  have HBA := Lib.hid hba
  clear hba hg
  generalize t.kind = kd at *
  generalize (⟨t.text.toArray⟩ : ByteArray) = tx at *
  generalize rightB t = rb at *
  go_enter Tryd.func23, Tryd.ntmps23
  go_wp2_with (go_at_call 24; refine HR.out.mono ?_; rintro e w2 ⟨rfl, hb2⟩; have HB2 := Lib.hid (HBA.out.trans (hb2.mono HBA.out.size)); clear hb2)
  go_ret
  exact ⟨rfl, HB2.out⟩

/-- The first token that is not right, or -1. -/
def findT (ts : List Tok) : Int := match ts.findIdx? (fun t => !rightB t) with | some i => i | none => -1
theorem findT_any (ts : List Tok) : decide ((0 : Int) ≤ findT ts) = !ts.all rightB := by
  unfold findT
  cases h : ts.findIdx? (fun t => !rightB t) with
  | none =>
    rw [List.findIdx?_eq_none_iff] at h
    have : ts.all rightB = true := List.all_eq_true.2 (fun t ht => by simpa using h t ht)
    rw [this]; decide
  | some i =>
    rw [List.findIdx?_eq_some_iff_getElem] at h
    obtain ⟨hi, hp, _⟩ := h
    have : ts.all rightB = false := List.all_eq_false.2 ⟨ts[i], List.getElem_mem hi, by simpa using hp⟩
    rw [this]; simp

set_option maxRecDepth 100000 in
theorem indexT_any (ts : List Tok) (zs : Nat → Int) (a : Option Addr) (b o cap : Nat) (w : World) (hv : TksV w w.heap.size ts zs a b o) (hl : ∀ t ∈ ts, t.text.length ≤ 281474976710656) (hg : GAt w) (hmax : ts.length ≤ 281474976710656) :
    Calls Tryd.prog 38 #[.slice a ts.length cap, .func (.func 23) #[] #[]] w fun e w' => e = .returned (.int .i64 (findT ts)) ∧ Below w.heap.size w w' := by
  have HV := Lib.hid hv
  have HG := Lib.hid hg
  have HL := Lib.hid hl
  have HMX := Lib.hid hmax
  clear hv hg hl
  go_enter Tryd.func38, Tryd.ntmps38
  go_wp2_with fail
  go_loopw [8, 5] (fun i _ wr => ∃ j : Nat, j ≤ ts.length ∧ i = .int .i64 j ∧ Hid ((ts.take j).findIdx? (fun t => !rightB t) = none) ∧ Below w.heap.size w wr) (fun i _ _ => ts.length - (intOf i).toNat)
  case atStart => exact ⟨0, Nat.zero_le _, rfl, by simp [Hid], Below.refl _ _⟩
  case round =>
    obtain ⟨j, hj, rfl, HF, hb⟩ := hrel
    have hbs := hb.size
    by_cases hlt : j < ts.length
    · obtain ⟨rfl, hbl⟩ := HV.out.1 (by omega)
      obtain ⟨c0, c1, c2⟩ := HV.out.2 j hlt
      have hc0 := (hb.cell (p := ⟨b, o + j * 3, none⟩) hbl).trans c0
      have hc1 := (hb.cell (p := ⟨b, o + j * 3 + 1, none⟩) hbl).trans c1
      have hc2 := (hb.cell (p := ⟨b, o + j * 3 + 2, none⟩) hbl).trans c2
      have HC := Lib.hid (joinC_any ts[j] (zs j) wr (HL.out _ (List.getElem_mem hlt)) (HG.out.below hb))
      have hnext : (ts.take (j + 1)).findIdx? (fun t => !rightB t) = if !rightB ts[j] then some j else none := by
        rw [List.take_succ_eq_append_getElem hlt, List.findIdx?_append, HF.out]
        simp [List.findIdx?_cons, Nat.min_eq_left hj]
      have hfound : (!rightB ts[j]) = true → findT ts = j := fun h => by
        have : ts.findIdx? (fun t => !rightB t) = some j := by
          rw [List.findIdx?_eq_some_iff_getElem]
          refine ⟨hlt, h, fun k hk => ?_⟩
          have h0 := HF.out
          rw [List.findIdx?_eq_none_iff] at h0
          have := h0 ts[k] (List.mem_take_iff_getElem.2 ⟨k, by omega, rfl⟩)
          simpa using this
        simp [findT, this]
      generalize rightB ts[j] = r at hnext hfound HC
      have HN2 := Lib.hid (And.intro hnext hfound)
      clear hnext hfound c0 c1 c2
      generalize ts[j].kind = kd at *
      generalize (⟨ts[j].text.toArray⟩ : ByteArray) = tx at *
      generalize zs j = z at *
      have HB := Lib.hid hb
      clear hb
      go_wp2_with fail
      refine HC.out.mono ?_
      rintro e w' ⟨rfl, hb'⟩
      have HBB := Lib.hid (HB.out.trans (hb'.mono hbs))
      clear hc0 hc1 hc2 hb'
      cases r
      · go_wp2_with fail
        go_ret
        exact ⟨ret_int (HN2.out.2 (by first | rfl | trivial)).symm, HBB.out⟩
      · go_wp2_with fail
        exact ⟨⟨j + 1, by omega, by go_num, by have := HN2.out.1; simpa [Hid] using this, HBB.out⟩, by simp [intOf]; omega⟩
    · go_wp2_with fail
      go_ret
      have h0 := HF.out
      rw [List.take_of_length_le (by omega)] at h0
      exact ⟨ret_int (by simp [findT, h0]), hb⟩

theorem containsT_any (ts : List Tok) (zs : Nat → Int) (a : Option Addr) (b o cap : Nat) (w : World) (hv : TksV w w.heap.size ts zs a b o) (hl : ∀ t ∈ ts, t.text.length ≤ 281474976710656) (hg : GAt w) (hmax : ts.length ≤ 281474976710656) :
    Calls Tryd.prog 22 #[.slice a ts.length cap, .func (.func 23) #[] #[]] w fun e w' => e = .returned (.bool (!ts.all rightB)) ∧ Below w.heap.size w w' := by
  rw [← findT_any]
  have HI := Lib.hid (indexT_any ts zs a b o cap w hv hl hg hmax)
  clear hv hl hg
  generalize findT ts = ft at *
  go_enter Tryd.func22, Tryd.ntmps22
  go_wp2_with (go_at_call 38; refine HI.out.mono ?_; rintro e w2 ⟨rfl, hb2⟩)
  go_ret
  exact ⟨rfl, hb2⟩
end Go.Proofs.YtpcbaokplifcoaaDoor
