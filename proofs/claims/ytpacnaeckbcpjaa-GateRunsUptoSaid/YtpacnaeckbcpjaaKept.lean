/- flat.kept over trees: how many it keeps. flat.Value. -/
import Derived.Test.YtpacnaeckbcpjaaHolds
import Derived.Test.YtpacnaeckbcpjaaFind
namespace Go.Chalk
open Go.RowKit
mutual
/-- The value of a tree. -/
def valT : Tr → List Bool → Bool
  | .mk kind v k l, a =>
    if kind = 1 then v == 1
    else if kind = 2 then decide (0 < v) && valB a v.toNat
    else if kind = 3 then decide (cntT l a = 0)
    else if kind = 4 then decide (cntT l a = l.length)
    else if kind = 5 then decide (0 < cntT l a)
    else if kind = 6 then decide (k ≤ (cntT l a : Int))
    else false
/-- How many of the trees are true. -/
def cntT : List Tr → List Bool → Nat
  | [], _ => 0
  | t :: r, a => (if valT t a then 1 else 0) + cntT r a
end
theorem cntT_eq (a : List Bool) : ∀ l : List Tr, cntT l a = (l.filter (valT · a)).length
  | [] => rfl
  | t :: r => by rw [cntT, cntT_eq a r, List.filter_cons]; split <;> simp <;> omega
theorem cntT_le (a : List Bool) (l : List Tr) : cntT l a ≤ l.length := by rw [cntT_eq]; exact List.length_filter_le _ _
theorem cntT_any (a : List Bool) (l : List Tr) : l.any (valT · a) = decide (0 < cntT l a) := by
  rw [cntT_eq]
  cases h : l.any (valT · a) with
  | true =>
    obtain ⟨t, h1, h2⟩ := List.any_eq_true.1 h
    have : t ∈ l.filter (valT · a) := List.mem_filter.2 ⟨h1, h2⟩
    have := List.length_pos_of_mem this
    exact (decide_eq_true this).symm
  | false =>
    have : l.filter (valT · a) = [] := List.filter_eq_nil_iff.2 (fun t ht => List.any_eq_false.1 h t ht)
    rw [this]; rfl
end Go.Chalk
namespace Go.Proofs.Ytpacnaeckbcpjaa
open Go.RowKit Go.Chalk

theorem tree_info2 : (Try.prog.info? 24).map (fun i => (i.zero, i.size, i.bytes)) = some (some (.agg #[.int .i64 0, .int .i64 0, .int .i64 0, .slice none 0 0]), 4, 48) := by kernel_rfl

set_option maxRecDepth 100000 in
set_option maxHeartbeats 1000000 in
theorem kept_len (f : FuncId) (lb : Array Value) (p : Tr → Bool) (l : List Tr) (a : Option Addr) (b o cap : Nat) (w : World) (hsl : SlAt (· < w.heap.size) a b o l.length) (hin : TreesIn w (· < w.heap.size) l b o) (hp : PredAt f lb p w l b o)
    (hent : ∀ (args : Array Value) (w : World), (callFunc f args).run Try.prog w = .ok (.enter f args) w) (hmax : l.length ≤ 2000000) :
    Calls Try.prog 42 #[.slice a l.length cap, .func (.func f) #[] lb] w fun e w' => ∃ a' c', e = .returned (.slice a' (l.filter p).length c') ∧ Below w.heap.size w w' := by
  have HIN := Lib.hid hin
  have HP := Lib.hid hp
  clear hin hp
  obtain ⟨i2, hi2, ht0, ht1, ht2⟩ := info_parts tree_info2
  go_enter Try.func42, Try.ntmps42
  go_wp2_with fail
  go_loopw [9, 4, 6] (fun i ov _ wr => ∃ (j : Nat) (q : Option Nat), i = .int .i64 j ∧ j ≤ l.length ∧ Chalk.Own wr (· < w.heap.size) 24 4 ov q (((l.take j).filter p).map Tr.toD) ∧ Below w.heap.size w wr) (fun i _ _ _ => l.length - (intOf i).toNat)
  case atStart => exact ⟨0, none, rfl, Nat.zero_le _, Chalk.Own.nil _ _ _ _ (fun _ h => h), Below.refl _ _⟩
  case round =>
    obtain ⟨j, q, rfl, hj, O, hb⟩ := hrel
    have hbs := hb.size
    obtain ⟨oa, ocap, hov⟩ := O.form
    rw [List.length_map] at hov
    subst hov
    by_cases hlt : j < l.length
    · obtain ⟨rfl, hbl⟩ := hsl (by omega)
      obtain ⟨k0, k1, k2, a1, n1, cap1, e0, e1, e2, e3, htj⟩ := TreesIn.at HIN.out hb hbl j hlt
      have HCA := Lib.hid (HP.out j hlt (wr.alloc (.cells #[.int .i64 k0, .int .i64 k1, .int .i64 k2, .slice a1 n1 cap1] 24)) (hb.alloc hbs _) k0 k1 k2 a1 n1 cap1 (htj.agree (agree_of_below (hb.alloc hbs _))))
      have htk : (l.take (j + 1)).filter p = (l.take j).filter p ++ if p l[j] then [l[j]] else [] := by
        rw [List.take_succ_eq_append_getElem hlt, List.filter_append]; congr 1; simp [List.filter_cons]
      have hle : ((l.take j).filter p).length ≤ 2000000 := by
        have := List.length_filter_le p (l.take j)
        simp at this; omega
      have HTK := Lib.hid htk
      have HO := Lib.hid O
      have HB := Lib.hid hb
      have HTJ := Lib.hid htj
      clear htk O hb htj
      go_wp2_with fail
      refine HCA.out.mono ?_
      rintro e w2 ⟨rfl, hb2⟩
      obtain ⟨z0, z1, z2, z3⟩ := boxed4 hb2 (by simp)
      have HBA := Lib.hid (Below.ahead hb2 (by simp))
      have HB2 := Lib.hid (HB.out.trans (HBA.out.mono hbs))
      have hs2 : wr.heap.size < w2.heap.size := by have := hb2.size; simp at this; omega
      have HO2 := Lib.hid (HO.out.below HBA.out)
      clear hb2
      have hTK := HTK.out
      generalize p l[j] = r at hTK ⊢
      have HTK2 := Lib.hid hTK
      clear hTK HTK
      cases r
      · go_wp2_with fail
        have h1 := HTK2.out
        simp only [Bool.false_eq_true, if_false, List.append_nil] at h1
        exact ⟨⟨j + 1, q, by go_num, by omega, by rw [h1]; exact HO2.out, HB2.out⟩, by simp [intOf]; omega⟩
      · have h1 := HTK2.out
        simp only [if_true] at h1
        have HH1 := Lib.hid h1
        clear h1
        obtain ⟨cs0, hrow0, hds0⟩ := HO2.out.cells
        rw [List.length_map] at hrow0
        have HROW : Hid ((w2.alloc (.cells #[.int .i64 k0, .int .i64 k1, .int .i64 k2, .slice a1 n1 cap1] 24)).ownsRow 0 24 4 (.slice oa ((l.take j).filter p).length ocap) ((l.take j).filter p).length cs0) := ownsRow_below hrow0 ((Below.refl _ _).alloc (Nat.le_refl _) _)
        have HDS0 := Lib.hid hds0
        clear hrow0 hds0
        generalize hkl : ((l.take j).filter p).length = kl at *
        have HKL := Lib.hid hkl
        clear hkl
        go_wp2_with (at_builtin; go_must (refine wpList_append_lies _ rfl _ _ 22 rfl 0 24 i2 _ 4 48 Try.underlying22 hi2 ht0 ht1 ht2 rfl (by decide) (.slice oa kl ocap) _ _ rfl HROW.out ⟨w2.heap.size, 0, none⟩ 1 1 [.int .i64 k0, .int .i64 k1, .int .i64 k2, .slice a1 n1 cap1] rfl rfl (World.news_of_block (heap_alloc_new w2 _)) (by simp [Value.oneCell']) (by omega) (by unfold maxLen; omega) (by omega) (Nat.zero_le _) (w2.heap.size + 1) (by simp) ?_); intro g cp w3 hown hgrow hat hglt; have HO3 := Lib.hid hown; have HGR := Lib.hid hgrow; have HAT := Lib.hid hat; clear hown hgrow hat)
        have hbx : Below w2.heap.size w2 (w2.alloc (.cells #[.int .i64 k0, .int .i64 k1, .int .i64 k2, .slice a1 n1 cap1] 24)) := (Below.refl _ _).alloc (Nat.le_refl _) _
        have oA := HO2.out.below hbx
        have hdt : DsAt (w2.alloc (.cells #[.int .i64 k0, .int .i64 k1, .int .i64 k2, .slice a1 n1 cap1] 24)) (· < w.heap.size) ([l[j]].map Tr.toD) [.int .i64 k0, .int .i64 k1, .int .i64 k2, .slice a1 n1 cap1] := by
          obtain ⟨d0, d1, d2, d3, hd, hdd⟩ := HTJ.out.agree (agree_of_below (HB2.out.trans (hbx.mono HB2.out.size)))
          simp at hd
          obtain ⟨rfl, rfl, rfl, rfl⟩ := hd
          exact DsAt.one_of hdd
        obtain ⟨g1, g2, g3⟩ := oA.appended (ys := [l[j]].map Tr.toD) (DsAt.agree (fun k hk => Below.heap_alloc _ _ _ (HO2.out.lt k hk)) _ _ HDS0.out) (by simpa [HKL.out] using HO3.out) HGR.out (by rcases HAT.out with h | h; exact .inl h.symm; exact .inr (by simp [Value.ownBlock, h])) hdt
        refine ⟨⟨j + 1, some g, by go_num, by omega, ?_, ?_⟩, by simp [intOf]; omega⟩
        · rw [HH1.out, List.map_append]; exact (by simpa [Value.ownBlock] using g1)
        · refine HB2.out.trans ((hbx.mono HB2.out.size).trans (g2.below (by have := HB2.out.size; simp; omega) (fun k hk => ?_)))
          have := HO2.out.off k hk
          omega
    · have htk : l.take j = l := List.take_of_length_le (by omega)
      rw [htk]
      go_wp2_with fail
      go_ret
      exact ⟨_, _, rfl, hb⟩

theorem valT_1 (v k : Int) (l : List Tr) (a : List Bool) : valT (.mk 1 v k l) a = (v == 1) := by rw [valT, if_pos rfl]
theorem valT_2 (v k : Int) (l : List Tr) (a : List Bool) : valT (.mk 2 v k l) a = (decide (0 < v) && valB a v.toNat) := by rw [valT, if_neg (by omega), if_pos rfl]
theorem valT_3 (v k : Int) (l : List Tr) (a : List Bool) : valT (.mk 3 v k l) a = decide (cntT l a = 0) := by rw [valT, if_neg (by omega), if_neg (by omega), if_pos rfl]
theorem valT_4 (v k : Int) (l : List Tr) (a : List Bool) : valT (.mk 4 v k l) a = decide (cntT l a = l.length) := by rw [valT, if_neg (by omega), if_neg (by omega), if_neg (by omega), if_pos rfl]
theorem valT_5 (v k : Int) (l : List Tr) (a : List Bool) : valT (.mk 5 v k l) a = decide (0 < cntT l a) := by rw [valT, if_neg (by omega), if_neg (by omega), if_neg (by omega), if_neg (by omega), if_pos rfl]
theorem valT_6 (v k : Int) (l : List Tr) (a : List Bool) : valT (.mk 6 v k l) a = decide (k ≤ (cntT l a : Int)) := by rw [valT, if_neg (by omega), if_neg (by omega), if_neg (by omega), if_neg (by omega), if_neg (by omega), if_pos rfl]

/-- The closure of flat.Value. -/
theorem value1_any (t : Tr) (c0 c1 c2 : Int) (a : Option Addr) (n cap : Nat) (xs : List Bool) (cb : Nat) (u : Value) (w : World)
    (hv : ∀ W : World, Below w.heap.size w W → Calls Try.prog 22 #[.agg #[.int .i64 c0, .int .i64 c1, .int .i64 c2, .slice a n cap], u] W fun e w' => e = .returned (.bool (valT t xs)) ∧ Below W.heap.size W w') (hcb : w.cell? ⟨cb, 0, none⟩ = some u) (hlt : cb < w.heap.size) :
    Calls Try.prog 40 #[.agg #[.int .i64 c0, .int .i64 c1, .int .i64 c2, .slice a n cap], .pointer (some ⟨cb, 0, none⟩)] w fun e w' => e = .returned (.bool (valT t xs)) ∧ Below w.heap.size w w' := by
  have HV := Lib.hid hv
  clear hv
  go_enter Try.func40, Try.ntmps40
  go_wp2_with fail
  refine (HV.out _ ((Below.refl _ _).alloc (Nat.le_refl _) _)).mono ?_
  rintro e w' ⟨rfl, hb⟩
  have HB := Lib.hid (Below.ahead hb (by simp))
  clear hb
  go_wp2_with fail
  go_ret
  exact ⟨rfl, HB.out⟩

set_option maxRecDepth 100000 in
set_option maxHeartbeats 1000000 in
theorem value_any (n : Nat) : ∀ (t : Tr) (x : Value) (N : Int) (xs : List Bool) (u : Value) (w : World), t.size ≤ n → t.size ≤ 2000000 → mayB t N = true → N ≤ 1000000 → TreeV w (· < w.heap.size) t x → DAt w (· < w.heap.size) (.sl (dbools xs)) [u] →
    Calls Try.prog 22 #[x, u] w fun e w' => e = .returned (.bool (valT t xs)) ∧ Below w.heap.size w w' := by
  induction n with
  | zero => intro t _ _ _ _ _ h; have := size_pos t; omega
  | succ n ih =>
    intro t x N xs u w hn hs hmay hN ht hx
    obtain ⟨kind, v, k, l⟩ := t
    obtain ⟨a, b, o, cap, rfl, hsl, _, _, _, _, _, hl⟩ := ht.open
    rw [mayB, Bool.and_eq_true] at hmay
    obtain ⟨hnode, hall⟩ := hmay
    have hcs := nodeOk_true hnode
    rw [Tr.size] at hn hs
    have hll := length_le_sizes l
    have hcl := cntT_le xs l
    have HX := Lib.hid hx
    obtain ⟨xa, xb, xo, xcap, hev, hxs, hxl, hxm, hxc⟩ := hx.open_bools
    simp only [List.cons.injEq, and_true] at hev
    subst hev
    have hmf : ∀ (fn : Fn) (first cap : Array Value) (w : World), (Instr.makeFunc fn first cap).run Try.prog w = .ok (.func fn first cap) w := fun _ _ _ _ => rfl
    have HTW := Lib.hid (twob_start w (.cells #[.int .i64 kind, .int .i64 v, .int .i64 k, .slice a l.length cap] 24) (.cells #[.slice xa xs.length xcap] 43))
    generalize hW0 : ((w.alloc (.cells #[.int .i64 kind, .int .i64 v, .int .i64 k, .slice a l.length cap] 24)).alloc (.cells #[.slice xa xs.length xcap] 43)) = W0 at HTW
    -- the closure, at each part
    have HPR : Hid (∀ W1 : World, Below W0.heap.size W0 W1 → PredAt 40 #[.pointer (some ⟨w.heap.size + 1, 0, none⟩)] (valT · xs) W1 l b o) := fun W1 hb1 j hj W hbW c0 c1 c2 a' n' cap' htv => by
      have hbw : Below w.heap.size w W := (HTW.out.tb.trans (hb1.mono HTW.out.tb.size)).trans (hbW.mono (Nat.le_trans HTW.out.tb.size hb1.size))
      have h2 : W.heap[w.heap.size + 1]? = some (.cells #[.slice xa xs.length xcap] 43) := by
        have l2 := (Array.getElem?_eq_some_iff.1 HTW.out.t2).1
        have l2' : w.heap.size + 1 < W1.heap.size := Nat.lt_of_lt_of_le l2 hb1.size
        exact (hbW.block _ l2').trans ((hb1.block _ l2).trans HTW.out.t2)
      have hma := mayAll_at hall j hj
      have hsj := size_le_sizes l j hj
      refine value1_any l[j] c0 c1 c2 a' n' cap' xs _ _ W (fun W' hb' => ?_) (cell_of_heap h2 rfl) (Array.getElem?_eq_some_iff.1 h2).1
      exact ih l[j] _ N xs _ W' (by omega) (by omega) hma.1 hN (htv.later (hb'.mono (by have := hbW.size; omega)) (by have := hb'.size; have := hbW.size; omega)) (HX.out.below (hbw.trans (hb'.mono hbw.size)))
    have HL := Lib.hid hl
    have HSL := Lib.hid hsl
    have HXC := Lib.hid hxc
    have HXS := Lib.hid hxs
    have HSL0 : Hid (SlAt (· < W0.heap.size) a b o l.length) := fun h => ⟨(hsl h).1, Nat.lt_of_lt_of_le (hsl h).2 HTW.out.tb.size⟩
    have HIN0 : Hid (TreesIn W0 (· < W0.heap.size) l b o) := TreesIn.later hl hsl HTW.out.tb HTW.out.tb.size
    have hent : ∀ (args : Array Value) (w : World), (callFunc 40 args).run Try.prog w = .ok (.enter 40 args) w := fun _ _ => by rfl
    have HENT := Lib.hid hent
    clear ih hl hsl ht hx hnode hall hxc hxs hent
    unfold maxLen at hxm
    have hcf : ∀ (args : Array Value) (w : World), (callFunc 40 args).run Try.prog w = .ok (.enter 40 args) w := fun _ _ => by rfl
    have HCF := Lib.hid hcf
    clear hcf
    have hdr : Below W0.heap.size W0 W0.drew := ⟨rfl, rfl, rfl, Nat.le_refl _, fun _ _ => rfl⟩
    have HKP := Lib.hid (kept_len 40 #[.pointer (some ⟨w.heap.size + 1, 0, none⟩)] (valT · xs) l a b o cap W0.drew HSL0.out (TreesIn.later HIN0.out HSL0.out hdr (Nat.le_refl _)) (HPR.out _ hdr) HCF.out (by omega))
    clear hdr
    subst hW0
    rcases hcs with ⟨rfl, rfl, rfl, _⟩ | ⟨rfl, rfl, rfl, _⟩ | ⟨rfl, hv1, hv2, rfl, _⟩ | ⟨rfl, rfl, rfl, _⟩ | ⟨rfl, rfl, rfl⟩ | ⟨rfl, rfl, rfl⟩ | ⟨rfl, rfl, hk1, hk4⟩
    · rw [valT_1]
      go_enter Try.func22, Try.ntmps22
      go_wp2_with fail
      go_ret
      exact ⟨rfl, HTW.out.tb⟩
    · rw [valT_1]
      go_enter Try.func22, Try.ntmps22
      go_wp2_with fail
      go_ret
      exact ⟨rfl, HTW.out.tb⟩
    · obtain ⟨m, rfl⟩ := Int.eq_ofNat_of_zero_le (show 0 ≤ v by omega)
      rw [valT_2, show decide (0 < (m : Int)) = true from by simp; omega, Bool.true_and, Int.toNat_natCast]
      have e0 : decide (0 < (m : Int)) = true := by simp; omega
      have e0' : decide (0 < m) = true := by simp; omega
      by_cases hlt : m < xs.length
      · obtain ⟨rfl, hbl⟩ := HXS.out (by omega)
        rw [valB_lt hlt]
        have e1 := (HTW.out.tb.cell (p := ⟨xb, xo + m, none⟩) hbl).trans (HXC.out m hlt)
        have e2 : decide ((m : Int) < (xs.length : Int)) = true := by simp; omega
        have e3 : decide (m < xs.length) = true := by simp; omega
        generalize xs[m] = bx at *
        go_enter Try.func22, Try.ntmps22
        go_wp2_with fail
        go_ret
        exact ⟨rfl, HTW.out.tb⟩
      · rw [valB_ge hlt]
        have e2 : decide ((m : Int) < (xs.length : Int)) = false := by simp; omega
        have e3 : decide (m < xs.length) = false := by simp; omega
        go_enter Try.func22, Try.ntmps22
        go_wp2_with fail
        go_ret
        exact ⟨rfl, HTW.out.tb⟩
    · have hvt : valT (.mk 3 0 0 l) xs = !l.any (valT · xs) := by
        rw [valT_3, cntT_any]
        by_cases h0 : cntT l xs = 0
        · rw [decide_eq_true h0, decide_eq_false (by omega)]; rfl
        · rw [decide_eq_false h0, decide_eq_true (by omega)]; rfl
      rw [hvt]
      clear hvt
      go_enter Try.func22, Try.ntmps22
      go_wp2_with fail
      refine (containsFunc_any 40 _ (valT · xs) l a b o cap _ HSL0.out HIN0.out (HPR.out _ (Below.refl _ _)) HCF.out (by omega)).mono ?_
      rintro e w' ⟨rfl, hb⟩
      have HB := Lib.hid (HTW.out.tb.trans (hb.mono HTW.out.tb.size))
      clear hb
      go_wp2_with fail
      go_ret
      exact ⟨rfl, HB.out⟩
    · have hvt : valT (.mk 4 0 0 l) xs = (((l.filter (valT · xs)).length : Int) == (l.length : Int)) := by
        rw [valT_4, cntT_eq]
        by_cases h0 : (l.filter (valT · xs)).length = l.length
        · rw [decide_eq_true h0]; exact (beq_iff_eq.2 (by omega)).symm
        · rw [decide_eq_false h0]; exact (beq_eq_false_iff_ne.2 (by omega)).symm
      rw [hvt]
      clear hvt
      have hfl := List.length_filter_le (valT · xs) l
      generalize hfn : (l.filter (valT · xs)).length = fn at *
      clear hfn
      go_enter Try.func22, Try.ntmps22
      go_wp2_with fail
      go_region_law (go_simp; go_at_call 42; (with_reducible refine HKP.out.mono ?_); rintro e w2 ⟨a', c', rfl, hb2⟩; have HB2 := Lib.hid (below_drew hb2); have r3 : w2.cell? ⟨w.heap.size, 3, none⟩ = some (.slice a l.length cap) := cell_of_heap ((HB2.out.block _ (Array.getElem?_eq_some_iff.1 HTW.out.t1).1).trans HTW.out.t1) rfl; clear hb2)
      all_goals
        go_wp2_with fail
        go_ret
        exact ⟨rfl, HTW.out.tb.trans (HB2.out.mono HTW.out.tb.size)⟩
    · rw [valT_5, ← cntT_any]
      go_enter Try.func22, Try.ntmps22
      go_wp2_with fail
      refine (containsFunc_any 40 _ (valT · xs) l a b o cap _ HSL0.out HIN0.out (HPR.out _ (Below.refl _ _)) HCF.out (by omega)).mono ?_
      rintro e w' ⟨rfl, hb⟩
      have HB := Lib.hid (HTW.out.tb.trans (hb.mono HTW.out.tb.size))
      clear hb
      go_wp2_with fail
      go_ret
      exact ⟨rfl, HB.out⟩
    · rw [valT_6, cntT_eq]
      have hfl := List.length_filter_le (valT · xs) l
      generalize hfn : (l.filter (valT · xs)).length = fn at *
      clear hfn
      go_enter Try.func22, Try.ntmps22
      go_wp2_with fail
      go_region_law (go_simp; go_at_call 42; (with_reducible refine HKP.out.mono ?_); rintro e w2 ⟨a', c', rfl, hb2⟩; have HB2 := Lib.hid (below_drew hb2); have r2 : w2.cell? ⟨w.heap.size, 2, none⟩ = some (.int .i64 k) := cell_of_heap ((HB2.out.block _ (Array.getElem?_eq_some_iff.1 HTW.out.t1).1).trans HTW.out.t1) rfl; clear hb2)
      all_goals
        go_wp2_with fail
        go_ret
        exact ⟨rfl, HTW.out.tb.trans (HB2.out.mono HTW.out.tb.size)⟩

end Go.Proofs.Ytpacnaeckbcpjaa
