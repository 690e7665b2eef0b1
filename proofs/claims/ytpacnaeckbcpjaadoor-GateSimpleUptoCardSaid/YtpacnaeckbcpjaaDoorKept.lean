/- flat.kept over trees: how many it keeps. flat.Value. -/
import Derived.Test.YtpacnaeckbcpjaaDoorHolds
import Derived.Test.YtpacnaeckbcpjaaDoorFind
namespace Go.Chalk
open Go.RowKit
mutual
/-- The value of a tree. -/
def valT : Tr → List Bool → Bool
  | .mk kind v k l, a =>
    if kind = 1 then v == 1
    else if kind = 2 then decide (0 < v) && valB a v.toNat
    else if kind = 3 then decide (cntT l a = 0)
    else if kind = 4 then decide (cntT l a = l.length)
    else if kind = 5 then decide (0 < cntT l a)
    else if kind = 6 then decide (k ≤ (cntT l a : Int))
    else false
/-- How many of the trees are true. -/
def cntT : List Tr → List Bool → Nat
  | [], _ => 0
  | t :: r, a => (if valT t a then 1 else 0) + cntT r a
end
theorem cntT_eq (a : List Bool) : ∀ l : List Tr, cntT l a = (l.filter (valT · a)).length
  | [] => rfl
  | t :: r => by rw [cntT, cntT_eq a r, List.filter_cons]; split <;> simp <;> omega
theorem cntT_le (a : List Bool) (l : List Tr) : cntT l a ≤ l.length := by rw [cntT_eq]; exact List.length_filter_le _ _
theorem cntT_any (a : List Bool) (l : List Tr) : l.any (valT · a) = decide (0 < cntT l a) := by
  rw [cntT_eq]
  cases h : l.any (valT · a) with
  | true =>
    obtain ⟨t, h1, h2⟩ := List.any_eq_true.1 h
    have : t ∈ l.filter (valT · a) := List.mem_filter.2 ⟨h1, h2⟩
    have := List.length_pos_of_mem this
    exact (decide_eq_true this).symm
  | false =>
    have : l.filter (valT · a) = [] := List.filter_eq_nil_iff.2 (fun t ht => List.any_eq_false.1 h t ht)
    rw [this]; rfl
end Go.Chalk
namespace Go.Proofs.YtpacnaeckbcpjaaDoor
open Go.RowKit Go.Chalk

theorem tree_info2 : (Tryd.prog.info? 24).map (fun i => (i.zero, i.size, i.bytes)) = some (some (.agg #[.int .i64 0, .int .i64 0, .int .i64 0, .slice none 0 0]), 4, 48) := by kernel_rfl

set_option maxRecDepth 100000 in
set_option maxHeartbeats 1000000 in
theorem kept_len (f : FuncId) (lb : Array Value) (p : Tr → Bool) (l : List Tr) (a : Option Addr) (b o cap : Nat) (w : World) (hsl : SlAt (· < w.heap.size) a b o l.length) (hin : TreesIn w (· < w.heap.size) l b o) (hp : PredAt f lb p w l b o)
    (hent : ∀ (args : Array Value) (w : World), (callFunc f args).run Tryd.prog w = .ok (.enter f args) w) (hmax : l.length ≤ 2000000) :
    Calls Tryd.prog 26 #[.slice a l.length cap, .func (.func f) #[] lb] w fun e w' => ∃ a' c', e = .returned (.slice a' (l.filter p).length c') ∧ Below w.heap.size w w' := by
  have HIN := Lib.hid hin
  have HP := Lib.hid hp
  clear hin hp
  obtain ⟨i2, hi2, ht0, ht1, ht2⟩ := info_parts tree_info2
  go_enter Tryd.func26, Tryd.ntmps26
  go_wp2_with fail
  go_loopw [9, 4, 6] (fun i ov _ wr => ∃ (j : Nat) (q : Option Nat), i = .int .i64 j ∧ j ≤ l.length ∧ Chalk.Own wr (· < w.heap.size) 24 4 ov q (((l.take j).filter p).map Tr.toD) ∧ Below w.heap.size w wr) (fun i _ _ _ => l.length - (intOf i).toNat)
  case atStart => exact ⟨0, none, rfl, Nat.zero_le _, Chalk.Own.nil _ _ _ _ (fun _ h => h), Below.refl _ _⟩
  case round =>
    obtain ⟨j, q, rfl, hj, O, hb⟩ := hrel
    have hbs := hb.size
    obtain ⟨oa, ocap, hov⟩ := O.form
    rw [List.length_map] at hov
    subst hov
    by_cases hlt : j < l.length
    · obtain ⟨rfl, hbl⟩ := hsl (by omega)
      obtain ⟨k0, k1, k2, a1, n1, cap1, e0, e1, e2, e3, htj⟩ := TreesIn.at HIN.out hb hbl j hlt
      have HCA := Lib.hid (HP.out j hlt (wr.alloc (.cells #[.int .i64 k0, .int .i64 k1, .int .i64 k2, .slice a1 n1 cap1] 24)) (hb.alloc hbs _) k0 k1 k2 a1 n1 cap1 (htj.agree (agree_of_below (hb.alloc hbs _))))
      have htk : (l.take (j + 1)).filter p = (l.take j).filter p ++ if p l[j] then [l[j]] else [] := by
        rw [List.take_succ_eq_append_getElem hlt, List.filter_append]; congr 1; simp [List.filter_cons]
      have hle : ((l.take j).filter p).length ≤ 2000000 := by
        have := List.length_filter_le p (l.take j)
        simp at this; omega
      have HTK := Lib.hid htk
      have HO := Lib.hid O
      have HB := Lib.hid hb
      have HTJ := Lib.hid htj
      clear htk O hb htj
      go_wp2_with fail
      refine HCA.out.mono ?_
      rintro e w2 ⟨rfl, hb2⟩
      obtain ⟨z0, z1, z2, z3⟩ := boxed4 hb2 (by simp)
      have HBA := Lib.hid (Below.ahead hb2 (by simp))
      have HB2 := Lib.hid (HB.out.trans (HBA.out.mono hbs))
      have hs2 : wr.heap.size < w2.heap.size := by have := hb2.size; simp at this; omega
      have HO2 := Lib.hid (HO.out.below HBA.out)
      clear hb2
      have hTK := HTK.out
      generalize p l[j] = r at hTK ⊢
      have HTK2 := Lib.hid hTK
      clear hTK HTK
      cases r
      · go_wp2_with fail
        have h1 := HTK2.out
        simp only [Bool.false_eq_true, if_false, List.append_nil] at h1
        exact ⟨⟨j + 1, q, by go_num, by omega, by rw [h1]; exact HO2.out, HB2.out⟩, by simp [intOf]; omega⟩
      · have h1 := HTK2.out
        simp only [if_true] at h1
        have HH1 := Lib.hid h1
        clear h1
        obtain ⟨cs0, hrow0, hds0⟩ := HO2.out.cells
        rw [List.length_map] at hrow0
        have HROW : Hid ((w2.alloc (.cells #[.int .i64 k0, .int .i64 k1, .int .i64 k2, .slice a1 n1 cap1] 24)).ownsRow 0 24 4 (.slice oa ((l.take j).filter p).length ocap) ((l.take j).filter p).length cs0) := ownsRow_below hrow0 ((Below.refl _ _).alloc (Nat.le_refl _) _)
        have HDS0 := Lib.hid hds0
        clear hrow0 hds0
        generalize hkl : ((l.take j).filter p).length = kl at *
        have HKL := Lib.hid hkl
        clear hkl
        go_wp2_with (at_builtin; go_must (refine wpList_append_lies _ rfl _ _ 22 rfl 0 24 i2 _ 4 48 Tryd.underlying22 hi2 ht0 ht1 ht2 rfl (by decide) (.slice oa kl ocap) _ _ rfl HROW.out ⟨w2.heap.size, 0, none⟩ 1 1 [.int .i64 k0, .int .i64 k1, .int .i64 k2, .slice a1 n1 cap1] rfl rfl (World.news_of_block (heap_alloc_new w2 _)) (by simp [Value.oneCell']) (by omega) (by unfold maxLen; omega) (by omega) (Nat.zero_le _) (w2.heap.size + 1) (by simp) ?_); intro g cp w3 hown hgrow hat hglt; have HO3 := Lib.hid hown; have HGR := Lib.hid hgrow; have HAT := Lib.hid hat; clear hown hgrow hat)
        have hbx : Below w2.heap.size w2 (w2.alloc (.cells #[.int .i64 k0, .int .i64 k1, .int .i64 k2, .slice a1 n1 cap1] 24)) := (Below.refl _ _).alloc (Nat.le_refl _) _
        have oA := HO2.out.below hbx
        have hdt : DsAt (w2.alloc (.cells #[.int .i64 k0, .int .i64 k1, .int .i64 k2, .slice a1 n1 cap1] 24)) (· < w.heap.size) ([l[j]].map Tr.toD) [.int .i64 k0, .int .i64 k1, .int .i64 k2, .slice a1 n1 cap1] := by
          obtain ⟨d0, d1, d2, d3, hd, hdd⟩ := HTJ.out.agree (agree_of_below (HB2.out.trans (hbx.mono HB2.out.size)))
          simp at hd
          obtain ⟨rfl, rfl, rfl, rfl⟩ := hd
          exact DsAt.one_of hdd
        obtain ⟨g1, g2, g3⟩ := oA.appended (ys := [l[j]].map Tr.toD) (DsAt.agree (fun k hk => Below.heap_alloc _ _ _ (HO2.out.lt k hk)) _ _ HDS0.out) (by simpa [HKL.out] using HO3.out) HGR.out (by rcases HAT.out with h | h; exact .inl h.symm; exact .inr (by simp [Value.ownBlock, h])) hdt
        refine ⟨⟨j + 1, some g, by go_num, by omega, ?_, ?_⟩, by simp [intOf]; omega⟩
        · rw [HH1.out, List.map_append]; exact (by simpa [Value.ownBlock] using g1)
        · refine HB2.out.trans ((hbx.mono HB2.out.size).trans (g2.below (by have := HB2.out.size; simp; omega) (fun k hk => ?_)))
          have := HO2.out.off k hk
          omega
    · have htk : l.take j = l := List.take_of_length_le (by omega)
      rw [htk]
      go_wp2_with fail
      go_ret
      exact ⟨_, _, rfl, hb⟩

theorem valT_1 (v k : Int) (l : List Tr) (a : List Bool) : valT (.mk 1 v k l) a = (v == 1) := by rw [valT, if_pos rfl]
theorem valT_2 (v k : Int) (l : List Tr) (a : List Bool) : valT (.mk 2 v k l) a = (decide (0 < v) && valB a v.toNat) := by rw [valT, if_neg (by omega), if_pos rfl]
theorem valT_3 (v k : Int) (l : List Tr) (a : List Bool) : valT (.mk 3 v k l) a = decide (cntT l a = 0) := by rw [valT, if_neg (by omega), if_neg (by omega), if_pos rfl]
theorem valT_4 (v k : Int) (l : List Tr) (a : List Bool) : valT (.mk 4 v k l) a = decide (cntT l a = l.length) := by rw [valT, if_neg (by omega), if_neg (by omega), if_neg (by omega), if_pos rfl]
theorem valT_5 (v k : Int) (l : List Tr) (a : List Bool) : valT (.mk 5 v k l) a = decide (0 < cntT l a) := by rw [valT, if_neg (by omega), if_neg (by omega), if_neg (by omega), if_neg (by omega), if_pos rfl]
theorem valT_6 (v k : Int) (l : List Tr) (a : List Bool) : valT (.mk 6 v k l) a = decide (k ≤ (cntT l a : Int)) := by rw [valT, if_neg (by omega), if_neg (by omega), if_neg (by omega), if_neg (by omega), if_neg (by omega), if_pos rfl]

end Go.Proofs.YtpacnaeckbcpjaaDoor
