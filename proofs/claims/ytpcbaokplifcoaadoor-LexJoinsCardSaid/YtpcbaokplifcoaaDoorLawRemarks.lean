/- LexRemarks: for every source, remark and count, where the listed library variables hold what their text lays, the law returns true: white space and remarks change no token. -/
import Derived.Test.YtpcbaokplifcoaaDoorLawAgain
import Derived.Test.YtpcbaokplifcoaaDoorAppend0
namespace Go.Chalk
open Go.RowKit Go.Proofs.YtpcbaokplifcoaaDoor

def vbytes (l : Bs) : List Value := l.map (fun c => Value.int .u8 (c.toNat : Int))
theorem wf_byte (c : UInt8) : (Lit.int .u8 (c.toNat : Int)).wf = true := by
  have h1 : IntKind.u8.min = 0 := rfl
  have h2 : IntKind.u8.max = 255 := rfl
  have := c.toNat_lt
  simp only [Lit.wf, Bool.and_eq_true, decide_eq_true_eq]
  omega
theorem DsAt.bytes {w : World} {F : Nat → Prop} : ∀ l : Bs, DsAt w F (l.map dbyte) (vbytes l)
  | [] => by rw [List.map_nil, DsAt]; rfl
  | c :: r => by
    rw [List.map_cons, DsAt]
    exact ⟨[.int .u8 (c.toNat : Int)], vbytes r, rfl, by rw [dbyte, DAt]; exact ⟨rfl, wf_byte c⟩, DsAt.bytes r⟩
theorem DsAt.bytes_inv {w : World} {F : Nat → Prop} : ∀ {l : Bs} {cs : List Value}, DsAt w F (l.map dbyte) cs → cs = vbytes l
  | [], _, h => by rw [List.map_nil, DsAt] at h; exact h
  | c :: r, cs, h => by
    rw [List.map_cons, DsAt] at h
    obtain ⟨c1, c2, rfl, h1, h2⟩ := h
    rw [dbyte, DAt] at h1
    obtain ⟨rfl, _⟩ := h1
    rw [DsAt.bytes_inv (l := r) h2]; rfl
/-- Bytes of the call's own. -/
def OwnB (w : World) (e : TypeId) (v : Value) (q : Option Nat) (l : Bs) : Prop := Own w (fun _ => False) e 1 v q (l.map dbyte)
theorem OwnB.nil (w : World) (e : TypeId) : OwnB w e (.slice none 0 0) none [] := Own.nil _ _ _ _ (fun _ h => h.elim)
theorem OwnB.below {w w' : World} {e : TypeId} {v : Value} {q : Option Nat} {l : Bs} (h : OwnB w e v q l) (hb : Below w.heap.size w w') : OwnB w' e v q l := Own.below h hb
theorem OwnB.row {w : World} {e : TypeId} {v : Value} {q : Option Nat} {l : Bs} (h : OwnB w e v q l) : w.ownsRow 0 e 1 v l.length (vbytes l) := by
  obtain ⟨cs, h1, h2⟩ := h.cells
  rw [DsAt.bytes_inv h2] at h1
  simpa using h1
theorem OwnB.read {w : World} {e : TypeId} {v : Value} {q : Option Nat} {l : Bs} (h : OwnB w e v q l) : ∃ a b cap, v = .slice a l.length cap ∧ SB w w.heap.size l a b 0 ∧ l.length ≤ cap ∧ (∀ k, q = some k → k < w.heap.size) := by
  have h1 := h.row
  have h1' := h1
  obtain ⟨hlen, h2⟩ := h1
  have hq : ∀ k, q = some k → k < w.heap.size := fun k hk => Own.row_lt h hk
  rcases h2 with ⟨rfl, h0⟩ | ⟨g, cap, cur, rfl, _, hh, hc1, hc2, hc3, hc4⟩
  · obtain rfl : l = [] := List.length_eq_zero_iff.1 h0
    exact ⟨none, 0, 0, rfl, ⟨fun h => by simp at h, fun i hi => by simp at hi⟩, Nat.le_refl _, hq⟩
  · refine ⟨_, g, cap, rfl, ⟨fun _ => ⟨rfl, (Array.getElem?_eq_some_iff.1 hh).1⟩, fun i hi => ?_⟩, hc1, hq⟩
    have := h1'.cellAt (g := g) (cap := cap) i (by simpa using hi)
    simp only [Nat.zero_add]
    rw [this]
    simp [vbytes, hi]
section
variable {P : Program} (w : World)
theorem wpList_append_bytes {ops : Array Oper} {rest : List Oper} {o : Oper} {act : Act} {Q : Exit → Act → World → Prop} (hgd : Region.wanted o (yielded ops act.tmps) = true) (s x : Operand) (t : TypeId)
    (ho : o.op = .call { callee := .builtin .append, args := #[s, x], argTypes := #[t, t] }) (e : TypeId) (i : TypeInfo) (z : Value) (ht : P.underlying t = some (.slice e)) (hi : P.info? e = some i) (hz : i.zero = some z)
    (hsize : i.size = 1) (hby : i.bytes = 1) (hzs : z.cells.size = 1) (v u : Value) (r : Option Nat) (xs ys : Bs) (hs : act.eval s = v) (hx : act.eval x = u) (own : OwnB w e v r xs) (a' : Option Addr) (b' o' cap' : Nat) (hu : u = .slice a' ys.length cap') (src : SB w w.heap.size ys a' b' o')
    (hbytes : xs.length + ys.length ≤ 1000000)
    (h : ∀ a cap r' w', OwnB w' e (.slice a (xs.length + ys.length) cap) r' (xs ++ ys) → Mod (fun k => r = some k) w w' → (r' = r ∨ r' = some w.heap.size) → wpList P ops Q rest (act.put o.dst (.slice a (xs.length + ys.length) cap)) w') : wpList P ops Q (o :: rest) act w :=
  wpList_step fun K hK => by
    rw [if_pos hgd]
    obtain ⟨a, cap, hv⟩ := Own.form own
    rw [List.length_map] at hv
    by_cases hm : ys.length = 0
    · have hnil : ys = [] := List.length_eq_zero_iff.1 hm
      subst hnil
      have hle : xs.length ≤ cap := by
        rcases own.row.2 with ⟨e', hn⟩ | ⟨g', c', cur, e', _, _, hc, _⟩
        · omega
        · rw [hv] at e'; simp at e'; omega
      have hr := run_append_none (P := P) w t o.type e i ht hi a a' xs.length cap cap' hle
      unfold Oper.wp execOp
      rw [List.length_nil] at hu
      simp only [ho, resolve, invoke, builtin, Sem.run_bind, Sem.run_pure, Result.andThen_ok, List.map_toArray, List.map_cons, List.map_nil, hs, hx, hv, hu, hr]
      have own' := own
      rw [hv] at own'
      exact hK _ _ (h a cap r w (by rw [List.append_nil]; exact own') (Mod.refl _ _) (.inl rfl))
    · obtain ⟨rfl, hb⟩ := src.1 (by omega)
      have hc : ∀ j u, (vbytes ys)[j]? = some u → w.cell? ((⟨b', o', none⟩ : Addr).add j) = some u := fun j u hj => by
        obtain ⟨hj', rfl⟩ := List.getElem?_eq_some_iff.1 hj
        have hjl : j < ys.length := by simpa [vbytes] using hj'
        have := src.2 j hjl
        have e2 : (vbytes ys)[j] = .int .u8 (ys[j].toNat : Int) := by simp [vbytes]
        rw [e2]
        unfold Addr.add
        by_cases h0 : j = 0
        · subst h0; simpa using this
        · rw [if_neg h0]; exact this
      refine wp_append_lies w s x t ho 0 e i z 1 1 ht hi hz hsize hby hzs (by decide) v xs.length (vbytes xs) hs own.row ⟨b', o', none⟩ ys.length cap' (vbytes ys) (hx.trans hu) (by simp [vbytes]) hc (fun u hm => by simp only [vbytes, List.mem_map] at hm; obtain ⟨_, _, rfl⟩ := hm; rfl) (by omega) (by unfold maxLen; omega) (by omega) (Nat.zero_le _) w.heap.size rfl ?_
      intro g c' w' hown hgrow hat hlt
      obtain ⟨g1, g2, g3⟩ := Own.appended (v' := .slice (some ⟨g, 0, none⟩) (xs.length + ys.length) c') (ys := ys.map dbyte) own (DsAt.bytes xs) (by simpa using hown) hgrow (by rcases hat with h | h; exact .inl h.symm; exact .inr (by rw [h]; rfl)) (DsAt.bytes ys)
      refine hK _ _ (h (some ⟨g, 0, none⟩) c' _ w' ?_ g2 g3)
      unfold OwnB
      rw [List.map_append]
      exact g1
end
/-- A literal of bytes. -/
theorem OwnB.lit {w : World} {e : TypeId} (l : Bs) (n : Nat) (cs : Array Value) (hn : l.length = n) (hcs : (vbytes l).toArray = cs) (hmx : n ≤ 1000000) : OwnB (w.alloc (.cells cs e)) e (.slice (some ⟨w.heap.size, 0, none⟩) n n) (some w.heap.size) l := by
  subst hcs
  have := Own.lit (w := w) (F := fun _ => False) (e := e) (sz := 1) (n := n) (cs := vbytes l) (xs := l.map dbyte) (by simpa using hn) (by unfold maxLen; omega) (by simp [vbytes, hn]) (DsAt.bytes l) (fun _ h => h.elim)
  exact this
theorem SB.lit {w : World} {e : TypeId} (l : Bs) (cs : Array Value) (hcs : (vbytes l).toArray = cs) : SB (w.alloc (.cells cs e)) (w.alloc (.cells cs e)).heap.size l (some ⟨w.heap.size, 0, none⟩) w.heap.size 0 := by
  subst hcs
  refine ⟨fun _ => ⟨rfl, by simp⟩, fun i hi => ?_⟩
  rw [Nat.zero_add]
  exact cell_of_heap (heap_alloc_new _ _) (by simp [vbytes, hi])
theorem wrapped_length : ∀ (n : Nat) (b : Bs), (wrapped n b).length = b.length + 5 * n
  | 0, b => rfl
  | n + 1, b => by rw [wrapped]; simp [wrapped_length n b]; omega
end Go.Chalk
namespace Go.Proofs.YtpcbaokplifcoaaDoor
open Go.RowKit Go.Chalk
theorem byte_info : (Tryd.prog.info? 5).map (fun i => (i.zero, i.size, i.bytes)) = some (some (.int .u8 0), 1, 1) := by kernel_rfl

set_option maxRecDepth 100000 in
set_option maxHeartbeats 4000000 in
theorem remarks_walk (w : World) (hg : GAt w) (l : Bs) (a : Option Addr) (b o cap : Nat) (hsb : SB w w.heap.size l a b o) (hcap : l.length ≤ cap) (hmax : cap ≤ maxLen)
    (r : Bs) (a' : Option Addr) (b' o' cap' : Nat) (hsr : SB w w.heap.size r a' b' o') (hcap' : r.length ≤ cap') (hmax' : cap' ≤ maxLen) (z : Int) (hz : -9223372036854775808 ≤ z ∧ z ≤ 9223372036854775807) :
    Calls Tryd.prog 7 #[.slice a l.length cap, .slice a' r.length cap', .int .i64 z] w fun e w' => e = .returned (.bool true) ∧ Below w.heap.size w w' := by
  unfold maxLen at hmax hmax'
  have HLV := Lib.hid (live_any w hg)
  by_cases hbig : 1500 < l.length ∨ 1500 < r.length ∨ z < 0 ∨ 5 < z
  · rcases hbig with h | h
    · have h1 : decide ((1500 : Int) < (l.length : Int)) = true := by simp; omega
      clear hsb hg hsr h
      go_enter Tryd.func7, Tryd.ntmps7
      go_wp2_with (go_at_call 9; refine HLV.out.mono ?_; rintro e w1 ⟨rfl, hb1⟩)
      go_ret
      exact ⟨rfl, hb1⟩
    · by_cases h0 : 1500 < l.length
      · have h1 : decide ((1500 : Int) < (l.length : Int)) = true := by simp; omega
        clear hsb hg hsr h h0
        go_enter Tryd.func7, Tryd.ntmps7
        go_wp2_with (go_at_call 9; refine HLV.out.mono ?_; rintro e w1 ⟨rfl, hb1⟩)
        go_ret
        exact ⟨rfl, hb1⟩
      · have h1 : decide ((1500 : Int) < (l.length : Int)) = false := by simp; omega
        by_cases h2 : 1500 < r.length
        · have h2' : decide ((1500 : Int) < (r.length : Int)) = true := by simp; omega
          clear hsb hg hsr h h0 h2
          go_enter Tryd.func7, Tryd.ntmps7
          go_wp2_with (go_at_call 9; refine HLV.out.mono ?_; rintro e w1 ⟨rfl, hb1⟩)
          go_ret
          exact ⟨rfl, hb1⟩
        · have h2' : decide ((1500 : Int) < (r.length : Int)) = false := by simp; omega
          by_cases h3 : z < 0
          · have h3' : decide (z < 0) = true := by simpa using h3
            clear hsb hg hsr h h0 h2
            go_enter Tryd.func7, Tryd.ntmps7
            go_wp2_with (go_at_call 9; refine HLV.out.mono ?_; rintro e w1 ⟨rfl, hb1⟩)
            go_ret
            exact ⟨rfl, hb1⟩
          · have h3' : decide (z < 0) = false := by simpa using h3
            have h4 : decide ((5 : Int) < z) = true := by simp; omega
            clear hsb hg hsr h h0 h2
            go_enter Tryd.func7, Tryd.ntmps7
            go_wp2_with (go_at_call 9; refine HLV.out.mono ?_; rintro e w1 ⟨rfl, hb1⟩)
            go_ret
            exact ⟨rfl, hb1⟩
  · obtain ⟨n, rfl⟩ : ∃ n : Nat, z = n := ⟨z.toNat, by omega⟩
    have hl : l.length ≤ 1500 := by omega
    have hr : r.length ≤ 1500 := by omega
    have hn : n ≤ 5 := by omega
    have h1 : decide ((1500 : Int) < (l.length : Int)) = false := by simp; omega
    have h2 : decide ((1500 : Int) < (r.length : Int)) = false := by simp; omega
    have h3 : decide ((n : Int) < 0) = false := by simp
    have h4 : decide ((5 : Int) < (n : Int)) = false := by simp; omega
    have htf : tokensF l = lexS l 0 [] := by unfold tokensF; rw [if_neg (by omega)]
    have HTK := Lib.hid (fun (W : World) (h : Below w.heap.size w W) => tokens_any l a b o cap W (hsb.below h h.size) hcap (hg.below h))
    have HG := Lib.hid hg
    have HSB := Lib.hid hsb
    have HSR := Lib.hid hsr
    obtain ⟨i0, hi, hz0, hz1, hz2⟩ := info_parts byte_info
    have hres := lex_remarks l (r.filter (fun c => !lineB c)) n (by simp [List.all_eq_true])
    have hlong : (wrapped n l ++ 35 :: r.filter (fun c => !lineB c)).length ≤ 3100 := by
      have := List.length_filter_le (fun c => !lineB c) r
      rw [List.length_append, wrapped_length]; simp; omega
    have htg : tokensF (wrapped n l ++ 35 :: r.filter (fun c => !lineB c)) = lexS (wrapped n l ++ 35 :: r.filter (fun c => !lineB c)) 0 [] := by unfold tokensF; rw [if_neg (by omega)]
    have HTG := Lib.hid htg
    have HTF := Lib.hid htf
    have HLO := Lib.hid hlong
    have hkl : (lexS l 0 []).1.length ≤ 1000000 := by
      have hs := goF_shape (l.length + 1) l 0 [] (by omega)
      have hlx : goF (l.length + 1) l 0 [] = lexS l 0 [] := rfl
      rw [hlx] at hs
      rcases hs with ⟨e1, e2⟩ | ⟨e1, _⟩
      · have h3 : lexS l 0 [] = ((lexS l 0 []).1, (lexS l 0 []).2.1, 0) := by rw [← e1]
        have := (JoinOk.of_lex (by omega) h3).len
        exact this
      · rw [e1]; simp
    have HRES := Lib.hid hres
    have HKL := Lib.hid hkl
    clear hbig hsb hsr hg htf htg hlong hres hkl
    generalize lexS l 0 [] = R at *
    obtain ⟨res, x, er⟩ := R
    go_enter Tryd.func7, Tryd.ntmps7
    go_wp2_with (go_at_call 9; refine HLV.out.mono ?_; rintro e w1 ⟨rfl, hb1⟩)
    have HB1 := Lib.hid hb1
    clear hb1
    refine (HTK.out _ HB1.out).mono ?_
    rintro e w2 ⟨v2, q2, rfl, ho2, _, hb2⟩
    rw [HTF.out] at ho2 ⊢
    simp only at ho2 ⊢
    obtain ⟨a2, b2, o2, cap2, rfl, hr2, hc2⟩ := ho2.read
    have HB2 := Lib.hid (HB1.out.trans (hb2.mono HB1.out.size))
    have HR2 := Lib.hid hr2
    clear ho2 hb2 hr2
    go_wp2_with (at_builtin; go_must (refine wpList_append_bytes _ (by rfl) _ _ 22 rfl 5 i0 _ Tryd.underlying22 hi hz0 hz1 hz2 rfl (.slice none 0 0) (.slice a l.length cap) none [] l rfl rfl (OwnB.nil _ _) a b o cap rfl (HSB.out.below HB2.out HB2.out.size) (by simp; omega) ?_); intro ca ccap cq w3 hown hmod hat; simp only [List.length_nil, Nat.zero_add, List.nil_append] at hown ⊢; have HO3 := Lib.hid hown; have HM3 := Lib.hid hmod; have HAT3 := Lib.hid hat; clear hown hmod hat)
    have HB3 := Lib.hid (HM3.out.below (Nat.le_refl _) (fun k hk => by cases hk))
    have HQ3 : Hid (∀ k, cq = some k → w2.heap.size ≤ k) := fun k hk => by
      rcases HAT3.out with h | h <;> (rw [h] at hk; simp at hk)
      omega
    go_loopw [44, 10, 11] (fun i cv _ wr => ∃ (j : Nat) (q : Option Nat), i = .int .i64 j ∧ j ≤ n ∧ OwnB wr 5 cv q (wrapped j l) ∧ Hid (∀ k, q = some k → w2.heap.size ≤ k) ∧ Below w2.heap.size w2 wr) (fun i _ _ _ => n - (intOf i).toNat)
    case atStart => exact ⟨0, cq, rfl, Nat.zero_le _, HO3.out, HQ3.out, HB3.out⟩
    case round =>
      obtain ⟨j, q, rfl, hj, hO, HQ, hb⟩ := hrel
      obtain ⟨c1, c2, c3, rfl, hsc, hcc, hql⟩ := hO.read
      have hwl := wrapped_length j l
      have HB := Lib.hid hb
      have hbs := hb.size
      by_cases hlt : j < n
      · have hw1 : wrapped (j + 1) l = 32 :: 9 :: 10 :: (wrapped j l ++ [9, 32]) := rfl
        have HW1 := Lib.hid hw1
        have HO := Lib.hid hO
        clear hw1 hO hb hsc hcc
        generalize wrapped j l = cl at *
        have hcl : cl.length ≤ 2000 := by omega
        clear hwl
        have hba : Below wr.heap.size wr (wr.alloc (.cells #[.int .u8 9, .int .u8 32] 5)) := (Below.refl _ _).alloc (Nat.le_refl _) _
        have HBA := Lib.hid hba
        have HOA := Lib.hid (HO.out.below hba)
        have HSA : Hid (SB (wr.alloc (.cells #[.int .u8 9, .int .u8 32] 5)) (wr.alloc (.cells #[.int .u8 9, .int .u8 32] 5)).heap.size [9, 32] (some ⟨wr.heap.size, 0, none⟩) wr.heap.size 0) := SB.lit [9, 32] _ rfl
        clear hba
        go_upto_region 10 with (at_builtin; go_must (refine wpList_append_bytes _ (by rfl) _ _ 22 rfl 5 i0 _ Tryd.underlying22 hi hz0 hz1 hz2 rfl (.slice c1 cl.length c3) (.slice (some ⟨wr.heap.size, 0, none⟩) 2 2) q cl [9, 32] rfl rfl HOA.out (some ⟨wr.heap.size, 0, none⟩) wr.heap.size 0 2 rfl HSA.out (by simp; omega) ?_); intro d1 d3 dq w4 hown hmod hat; generalize hL4 : cl.length + [(9 : UInt8), 32].length = L4 at hown ⊢; have HL4 := Lib.hid hL4; have HM4 := Lib.hid hmod; have HO4 := Lib.hid hown; clear hown hmod hat hL4)
        obtain ⟨d1', d2, d3', hdv, hds, _, _⟩ := HO4.out.read
        rw [List.length_append, HL4.out] at hdv
        simp only [Value.slice.injEq, true_and] at hdv
        obtain ⟨rfl, rfl⟩ := hdv
        have hbd : Below w4.heap.size w4 (w4.alloc (.cells #[.int .u8 32, .int .u8 9, .int .u8 10] 5)) := (Below.refl _ _).alloc (Nat.le_refl _) _
        have HBD := Lib.hid hbd
        have HSD := Lib.hid (hds.below hbd hbd.size)
        have HOD : Hid (OwnB (w4.alloc (.cells #[.int .u8 32, .int .u8 9, .int .u8 10] 5)) 5 (.slice (some ⟨w4.heap.size, 0, none⟩) 3 3) (some w4.heap.size) [32, 9, 10]) := OwnB.lit [32, 9, 10] 3 _ rfl rfl (by decide)
        have HB4 := Lib.hid (HB.out.trans ((HBA.out.mono hbs).trans (HM4.out.below (by have := HBA.out.size; omega) (fun k hk => HQ.out k hk))))
        have HHU : Hid (Value.slice d1 L4 d3 = .slice d1 (cl ++ [9, 32]).length d3) := by show _ = _; rw [← HL4.out]; simp
        clear hbd hds
        go_wp2_with (at_builtin; go_must (refine wpList_append_bytes _ (by rfl) _ _ 22 rfl 5 i0 _ Tryd.underlying22 hi hz0 hz1 hz2 rfl (.slice (some ⟨w4.heap.size, 0, none⟩) 3 3) (.slice d1 L4 d3) (some w4.heap.size) [32, 9, 10] (cl ++ [9, 32]) rfl rfl HOD.out d1 d2 0 d3 HHU.out HSD.out (by simp; omega) ?_); intro f1 f3 fq w5 hown hmod hat; generalize hL5 : [(32 : UInt8), 9, 10].length + (cl ++ [9, 32]).length = L5 at hown ⊢; have HO5 := Lib.hid hown; have HM5 := Lib.hid hmod; have HAT5 := Lib.hid hat; clear hown hmod hat hL5)
        have hs4 := HB4.out.size
        refine ⟨⟨j + 1, fq, by go_num, by omega, by rw [HW1.out]; exact HO5.out, fun k hk => ?_, HB4.out.trans ((HBD.out.mono hs4).trans (HM5.out.below (by have := HBD.out.size; omega) (fun k hk => by simp at hk; omega)))⟩, by simp [intOf]; omega⟩
        rcases HAT5.out with h | h <;> (rw [h] at hk; simp at hk; omega)
      · obtain rfl : j = n := by omega
        have HO := Lib.hid hO
        clear hO hb hsc hcc
        generalize wrapped j l = cl at *
        have hcl : cl.length ≤ 2000 := by omega
        clear hwl
        have hba : Below wr.heap.size wr (wr.alloc (.cells #[.int .u8 35] 5)) := (Below.refl _ _).alloc (Nat.le_refl _) _
        have HBA := Lib.hid hba
        have HOA := Lib.hid (HO.out.below hba)
        have HSA : Hid (SB (wr.alloc (.cells #[.int .u8 35] 5)) (wr.alloc (.cells #[.int .u8 35] 5)).heap.size [35] (some ⟨wr.heap.size, 0, none⟩) wr.heap.size 0) := SB.lit [35] _ rfl
        clear hba
        go_wp2_with (at_builtin; go_must (refine wpList_append_bytes _ (by rfl) _ _ 22 rfl 5 i0 _ Tryd.underlying22 hi hz0 hz1 hz2 rfl (.slice c1 cl.length c3) (.slice (some ⟨wr.heap.size, 0, none⟩) 1 1) q cl [35] rfl rfl HOA.out (some ⟨wr.heap.size, 0, none⟩) wr.heap.size 0 1 rfl HSA.out (by simp; omega) ?_); intro d1 d3 dq w4 hown hmod hat; generalize hL4 : cl.length + [(35 : UInt8)].length = L4 at hown ⊢; have HL4 := Lib.hid hL4; have HM4 := Lib.hid hmod; have HO4 := Lib.hid hown; have HAT4 := Lib.hid hat; clear hown hmod hat hL4)
        have HB4 := Lib.hid (HB.out.trans ((HBA.out.mono hbs).trans (HM4.out.below (by have := HBA.out.size; omega) (fun k hk => HQ.out k hk))))
        have HQ4 : Hid (∀ k, dq = some k → w2.heap.size ≤ k) := fun k hk => by
          rcases HAT4.out with h | h
          · exact HQ.out k (h ▸ hk)
          · rw [h] at hk; simp at hk; omega
        have hO4 := HO4.out
        generalize hcl2 : cl ++ [35] = cm at hO4
        have HCM := Lib.hid hcl2
        have HO4' := Lib.hid hO4
        have hcm : cm.length ≤ 2001 := by rw [← hcl2]; simp; omega
        clear hO4 hcl2
        obtain ⟨wo, rfl⟩ : ∃ wo : World, wo = wr := ⟨_, rfl⟩
        go_loopw [60, 10, 13] (fun i cv _ wr => ∃ (k : Nat) (q : Option Nat), i = .int .i64 k ∧ k ≤ r.length ∧ OwnB wr 5 cv q (cm ++ (r.take k).filter (fun c => !lineB c)) ∧ Hid (∀ k, q = some k → w2.heap.size ≤ k) ∧ Below w2.heap.size w2 wr) (fun i _ _ _ => r.length - (intOf i).toNat)
        case atStart => exact ⟨0, dq, rfl, Nat.zero_le _, by simpa using HO4'.out, HQ4.out, HB4.out⟩
        case round =>
          obtain ⟨k, q', rfl, hk, hO', HQ', hb'⟩ := hrel
          obtain ⟨e1, e2, e3, rfl, hse, hee, hqe⟩ := hO'.read
          have hfl : ((r.take k).filter (fun c => !lineB c)).length ≤ 1500 := by
            have := List.length_filter_le (fun c => !lineB c) (r.take k)
            have h2 := List.length_take_le k r
            omega
          have hbs' := hb'.size
          have HB' := Lib.hid hb'
          by_cases hlt : k < r.length
          · obtain ⟨rfl, hbr⟩ := HSR.out.1 (by omega)
            have hcell := ((HSR.out.below HB2.out HB2.out.size).below hb' hb'.size).2 k hlt
            have htk : (r.take (k + 1)).filter (fun c => !lineB c) = (r.take k).filter (fun c => !lineB c) ++ if lineB r[k] then [] else [r[k]] := by
              rw [List.take_succ_eq_append_getElem hlt, List.filter_append]
              congr 1
              cases hh : lineB r[k] <;> simp [List.filter_cons, hh]
            cases hln : lineB r[k]
            · rw [hln] at htk
              simp only [Bool.false_eq_true, if_false] at htk
              have HTK2 := Lib.hid htk
              have h10 : ((r[k].toNat : Int) != 10) = true := by
                simp only [lineB, beq_eq_false_iff_ne] at hln
                rw [bne_iff_ne]; omega
              have HSX : Hid (SB (wr.alloc (.cells #[.int .u8 (r[k].toNat : Int)] 5)) (wr.alloc (.cells #[.int .u8 (r[k].toNat : Int)] 5)).heap.size [r[k]] (some ⟨wr.heap.size, 0, none⟩) wr.heap.size 0) := SB.lit [r[k]] _ rfl
              generalize hfm : cm ++ (r.take k).filter (fun c => !lineB c) = cx at *
              have hcx : cx.length ≤ 4000 := by rw [← hfm]; simp; omega
              have HFM := Lib.hid hfm
              have HOX := Lib.hid hO'
              clear htk hln hfm hO' hse hb'
              generalize hrk : r[k] = rk at *
              clear hrk
              have hbx : Below wr.heap.size wr (wr.alloc (.cells #[.int .u8 (rk.toNat : Int)] 5)) := (Below.refl _ _).alloc (Nat.le_refl _) _
              have HBX := Lib.hid hbx
              have HOY := Lib.hid (HOX.out.below hbx)
              clear hbx
              go_wp2_with (at_builtin; go_must (refine wpList_append_bytes _ (by rfl) _ _ 22 rfl 5 i0 _ Tryd.underlying22 hi hz0 hz1 hz2 rfl (.slice e1 cx.length e3) (.slice (some ⟨wr.heap.size, 0, none⟩) 1 1) q' cx [rk] rfl rfl HOY.out (some ⟨wr.heap.size, 0, none⟩) wr.heap.size 0 1 rfl HSX.out (by simp; omega) ?_); intro g1 g3 gq w6 hown hmod hat; generalize hL6 : cx.length + [rk].length = L6 at hown ⊢; have HM6 := Lib.hid hmod; have HO6 := Lib.hid hown; have HAT6 := Lib.hid hat; clear hown hmod hat hL6)
              refine ⟨⟨k + 1, gq, by go_num, by omega, by rw [HTK2.out, ← List.append_assoc, HFM.out]; exact HO6.out, fun m hm => ?_, HB'.out.trans ((HBX.out.mono hbs').trans (HM6.out.below (by have := HBX.out.size; omega) (fun m hm => HQ'.out m hm)))⟩, by simp [intOf]; omega⟩
              rcases HAT6.out with h | h
              · exact HQ'.out m (h ▸ hm)
              · rw [h] at hm; simp at hm; omega
            · rw [hln] at htk
              simp only [if_true, List.append_nil] at htk
              have HTK2 := Lib.hid htk
              have h10 : r[k].toNat = 10 := by simpa [lineB] using hln
              rw [h10] at hcell
              have HOX := Lib.hid hO'
              generalize hfm : cm ++ (r.take k).filter (fun c => !lineB c) = cx at *
              have HFM := Lib.hid hfm
              clear htk hln h10 hO' hse hb' hfm
              go_wp2_with fail
              exact ⟨⟨k + 1, q', by go_num, by omega, by rw [HTK2.out, HFM.out]; exact HOX.out, HQ'.out, HB'.out⟩, by simp [intOf]; omega⟩
          · have htk : r.take k = r := List.take_of_length_le (by omega)
            rw [htk] at hse hee hO' ⊢
            have HLL : Hid ((cm ++ r.filter (fun c => !lineB c)) = cl ++ 35 :: r.filter (fun c => !lineB c)) := by show _ = _; rw [← HCM.out]; simp
            have htg := HTG.out
            rw [← HLL.out] at htg HRES
            have HTH := Lib.hid (tokens_any _ e1 e2 0 e3 wr hse hee (HG.out.below (HB2.out.trans (hb'.mono HB2.out.size))))
            have HTG2 := Lib.hid htg
            clear htk hO' hse hb' htg HTG
            generalize cm ++ r.filter (fun c => !lineB c) = cx at *
            generalize lexS cx 0 [] = R2 at *
            obtain ⟨res2, x2, er2⟩ := R2
            have hal := HRES.out
            simp only [ali, Prod.mk.injEq] at hal
            obtain ⟨hk1, rfl⟩ := hal
            have HAL := Lib.hid (alike_kt hk1)
            have hll : res2.length = res.length := by simpa using congrArg List.length hk1
            have HLN := Lib.hid hll
            clear hk1 hll HRES
            go_wp2_with fail
            refine HTH.out.mono ?_
            rintro e w7 ⟨v7, q7, rfl, ho7, _, hb7⟩
            rw [HTG2.out] at ho7 ⊢
            simp only at ho7 ⊢
            obtain ⟨a7, b7, o7, cap7, rfl, hr7, hc7⟩ := ho7.read
            have HB27 := Lib.hid (HB'.out.trans (hb7.mono hbs'))
            have HB7 := Lib.hid (HB2.out.trans (HB27.out.mono HB2.out.size))
            have hak := alike_any res (placesF res) (placesF res2) a2 a7 b2 o2 cap2 b7 o7 cap7 w7 (HR2.out.below HB27.out HB27.out.size) (hr7.alike HAL.out) HKL.out
            rw [HLN.out]
            have HAK := Lib.hid hak
            have hee2 : (er2 == er2) = true := by simp
            clear ho7 hb7 hr7 hak
            go_wp2_with (go_at_call 16; refine HAK.out.mono ?_; rintro e w8 ⟨rfl, hb8⟩; have HB8 := Lib.hid (HB7.out.trans (hb8.mono HB7.out.size)); clear hb8)
            go_ret
            exact ⟨by simp, HB8.out⟩
end Go.Proofs.YtpcbaokplifcoaaDoor
