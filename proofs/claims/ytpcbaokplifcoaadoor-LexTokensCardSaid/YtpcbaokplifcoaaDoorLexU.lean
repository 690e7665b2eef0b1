/- The reference: one. -/
import Derived.Test.YtpcbaokplifcoaaDoorLexT
namespace Go.Chalk
open Go.RowKit Go.Proofs.YtpcbaokplifcoaaDoor
/-- From p on to k all letters are of q. -/
def AllIn (q : UInt8 → Bool) (l : Bs) (p k : Nat) : Prop := ∀ i (h : i < l.length), p ≤ i → i < k → q l[i] = true
theorem AllIn.next {q : UInt8 → Bool} {l : Bs} {p k : Nat} (h : AllIn q l p k) (hk : k < l.length) (hq : q l[k] = true) : AllIn q l p (k + 1) := fun i hi h1 h2 => by
  rcases Nat.lt_succ_iff_lt_or_eq.1 h2 with h' | rfl
  · exact h i hi h1 h'
  · exact hq
theorem AllIn.run {q : UInt8 → Bool} {l : Bs} {p k : Nat} (h : AllIn q l p k) (hp : p ≤ k) (hk : k ≤ l.length) (hend : ∀ h : k < l.length, q l[k] = false) : (l.drop p).takeWhile q = (l.drop p).take (k - p) := by
  have hl : ((l.drop p).takeWhile q).length = k - p := by
    refine takeWhile_upto _ _ _ (by rw [List.length_drop]; omega) (fun i hi hik => ?_) (fun hi => ?_)
    · rw [List.length_drop] at hi
      rw [List.getElem_drop]
      exact h (p + i) (by omega) (by omega) (by omega)
    · rw [List.length_drop] at hi
      rw [List.getElem_drop]
      have e : p + (k - p) = k := by omega
      simp only [e]
      exact hend (by omega)
  rw [← hl, takeWhile_take]
/-- What one gives. -/
def OnePost (l : Bs) (p : Nat) (w : World) (e : Ending) (w' : World) : Prop := ∃ (k0 : Int) (s0 : Bs) (z0 : Int) (ok : Bool), e = .returned (.tuple #[.agg #[.int .i64 k0, .string ⟨s0.toArray⟩, .int .i64 z0], .bool ok]) ∧ (nextF (l.drop p)).2.2 = ok ∧
  (ok = true → k0 = (nextF (l.drop p)).1 ∧ s0 = (nextF (l.drop p)).2.1 ∧ z0 = (p : Int)) ∧ Below w.heap.size w w'
end Go.Chalk
namespace Go.Proofs.YtpcbaokplifcoaaDoor
open Go.RowKit Go.Chalk

set_option maxRecDepth 100000 in
set_option maxHeartbeats 1000000 in
theorem one_word (l : Bs) (b o cap p : Nat) (w : World) (hsb : SB w w.heap.size l (some ⟨b, o, none⟩) b o) (hp : p < l.length) (hcap : l.length ≤ cap) (hmax : l.length ≤ 281474976710656) (hsm : smallB l[p] = true) :
    Calls Tryd.prog 21 #[.slice (some ⟨b, o, none⟩) l.length cap, .int .i64 p] w (OnePost l p w) := by
  have hbl := (hsb.1 (by omega)).2
  have hba : Below w.heap.size w (w.alloc (.cells #[.int .i64 0, .string ⟨#[]⟩, .int .i64 0] 34)) := (Below.refl _ _).alloc (Nat.le_refl _) _
  have hblk := heap_alloc_new w (.cells #[.int .i64 0, .string ⟨#[]⟩, .int .i64 0] 34)
  have hs2 := hsb.below hba hba.size
  have h0 := hsb.2 p hp
  have HTX : Hid (∀ k, p ≤ k → k ≤ l.length → (convert 22 9 (.slice (some ⟨b, o + p, none⟩) (k - p) (cap - p))).run Tryd.prog (w.alloc (.cells #[.int .i64 0, .string ⟨#[]⟩, .int .i64 0] 34)) = .ok (.string ⟨((l.drop p).take (k - p)).toArray⟩) (w.alloc (.cells #[.int .i64 0, .string ⟨#[]⟩, .int .i64 0] 34))) := fun k h1 h2 => by
    have hs3 : SB (w.alloc (.cells #[.int .i64 0, .string ⟨#[]⟩, .int .i64 0] 34)) (w.alloc (.cells #[.int .i64 0, .string ⟨#[]⟩, .int .i64 0] 34)).heap.size ((l.drop p).take (k - p)) (some ⟨b, o + p, none⟩) b (o + p) := ⟨fun _ => ⟨rfl, Nat.lt_of_lt_of_le hbl hba.size⟩, (hs2.2.drop p).take _⟩
    have := hs3.text (P := Tryd.prog) 22 5 9 Tryd.underlying22 Tryd.underlying5 Tryd.underlying9 (cap - p)
    rwa [List.length_take, List.length_drop, Nat.min_eq_left (by omega)] at this
  have HS := Lib.hid hs2
  have HBA := Lib.hid hba
  have HBK := Lib.hid hblk
  have HLT := Lib.hid (letter_any l[p] (w.alloc (.cells #[.int .i64 0, .string ⟨#[]⟩, .int .i64 0] 34)))
  rw [hsm] at HLT
  have HIN := Lib.hid (fun (k : Nat) (h : k < l.length) => inner_any l[k] (w.alloc (.cells #[.int .i64 0, .string ⟨#[]⟩, .int .i64 0] 34)))
  have HOK : Hid (∀ k, p ≤ k → k ≤ l.length → (l.drop p).takeWhile innerB = (l.drop p).take (k - p) → ∀ W : World, Below w.heap.size w W → OnePost l p w (.returned (.tuple #[.agg #[.int .i64 1, .string ⟨((l.drop p).take (k - p)).toArray⟩, .int .i64 (p : Int)], .bool (wordB ((l.drop p).take (k - p)))])) W) := fun k h1 h2 ht W hb => by
    have hn : nextF (l.drop p) = (1, (l.drop p).take (k - p), wordB ((l.drop p).take (k - p))) := by
      rw [List.drop_eq_getElem_cons hp] at ht ⊢
      rw [nextF, if_pos hsm, ht]
    exact ⟨_, _, _, _, rfl, by rw [hn], fun _ => by rw [hn]; exact ⟨rfl, rfl, rfl⟩, hb⟩
  clear hsb hba hblk hs2
  generalize (l[p].toNat : Int) = cp at *
  go_enter Tryd.func21, Tryd.ntmps21
  go_wp2_with (first | (go_at_call 32; refine HLT.out.mono ?_; rintro e w' ⟨rfl, rfl⟩))
  generalize w.alloc (.cells #[.int .i64 0, .string ⟨#[]⟩, .int .i64 0] 34) = w1 at *
  clear h0
  go_loop [6] (fun i => ∃ k : Nat, i = .int .i64 k ∧ p ≤ k ∧ k ≤ l.length ∧ Hid (AllIn innerB l p k)) (fun i => l.length - (intOf i).toNat)
  case atStart => exact ⟨p, rfl, Nat.le_refl _, by omega, fun i _ h1 h2 => by omega⟩
  case round =>
    obtain ⟨k, rfl, hpk, hk, HAI⟩ := hrel
    by_cases hkl : k < l.length
    · have hck := HS.out.2 k hkl
      have HCK := Lib.hid (HIN.out k hkl)
      cases hin : innerB l[k]
      · rw [hin] at HCK
        have hrun := HAI.out.run hpk hk (fun _ => hin)
        have hpk2 : p < k := by
          rcases Nat.lt_or_eq_of_le hpk with h | rfl
          · exact h
          · have : innerB l[p] = true := by simp [innerB, hsm]
            rw [this] at hin; cases hin
        have HFIN := Lib.hid (HOK.out k hpk hk hrun)
        have htx := HTX.out k hpk hk
        have hdl : (⟨((l.drop p).take (k - p)).toArray⟩ : ByteArray).data.toList = (l.drop p).take (k - p) := by simp
        have hwd := wordR_any ⟨((l.drop p).take (k - p)).toArray⟩ w1 (by rw [size_mk, List.length_take]; omega)
        rw [hdl] at hwd
        have HWD := Lib.hid hwd
        obtain ⟨f0, f1, f2, x0, x1, x2⟩ := res3 HBK.out
        clear hrun hwd hdl HOK HTX hin
        generalize (l.drop p).take (k - p) = tx at *
        generalize wordB tx = ok at *
        generalize (l[k].toNat : Int) = ck at *
        go_wp2_with (first | (go_at_call 34; refine HWD.out.mono ?_; rintro e w' ⟨rfl, rfl⟩) | (go_at_call 33; refine HCK.out.mono ?_; rintro e w' ⟨rfl, rfl⟩))
        refine bodyPost_ret (v := .tuple #[.agg #[.int .i64 1, .string ⟨tx.toArray⟩, .int .i64 (p : Int)], .bool ok]) (by simp [results, Tryd.results21, go_sem, *]) rfl ?_
        exact HFIN.out _ (put3_below _ _ _ HBA.out (Nat.le_refl _))
      · rw [hin] at HCK
        have HA2 := Lib.hid (HAI.out.next hkl hin)
        clear hin
        generalize (l[k].toNat : Int) = ck at *
        go_wp2_with (go_at_call 33; refine HCK.out.mono ?_; rintro e w' ⟨rfl, rfl⟩)
        go_round
        case rel => exact ⟨k + 1, by go_num, by omega, by omega, HA2.out⟩
        case measure => simp [intOf]; omega
    · have hrun := HAI.out.run hpk hk (fun h => absurd h hkl)
      have hpk2 : p < k := by
        rcases Nat.lt_or_eq_of_le hpk with h | rfl
        · exact h
        · omega
      have HFIN := Lib.hid (HOK.out k hpk hk hrun)
      have htx := HTX.out k hpk hk
      have hdl : (⟨((l.drop p).take (k - p)).toArray⟩ : ByteArray).data.toList = (l.drop p).take (k - p) := by simp
      have hwd := wordR_any ⟨((l.drop p).take (k - p)).toArray⟩ w1 (by rw [size_mk, List.length_take]; omega)
      rw [hdl] at hwd
      have HWD := Lib.hid hwd
      obtain ⟨f0, f1, f2, x0, x1, x2⟩ := res3 HBK.out
      clear hrun hwd hdl HOK HTX HS
      generalize (l.drop p).take (k - p) = tx at *
      generalize wordB tx = ok at *
      skip
      go_wp2_with (first | (go_at_call 34; refine HWD.out.mono ?_; rintro e w' ⟨rfl, rfl⟩))
      refine bodyPost_ret (v := .tuple #[.agg #[.int .i64 1, .string ⟨tx.toArray⟩, .int .i64 (p : Int)], .bool ok]) (by simp [results, Tryd.results21, go_sem, *]) rfl ?_
      exact HFIN.out _ (put3_below _ _ _ HBA.out (Nat.le_refl _))

set_option maxRecDepth 100000 in
set_option maxHeartbeats 1000000 in
theorem one_num (l : Bs) (b o cap p : Nat) (w : World) (hsb : SB w w.heap.size l (some ⟨b, o, none⟩) b o) (hp : p < l.length) (hcap : l.length ≤ cap) (hmax : l.length ≤ 281474976710656) (hsm : smallB l[p] = false) (hdg : digitB l[p] = true) :
    Calls Tryd.prog 21 #[.slice (some ⟨b, o, none⟩) l.length cap, .int .i64 p] w (OnePost l p w) := by
  have hbl := (hsb.1 (by omega)).2
  have hba : Below w.heap.size w (w.alloc (.cells #[.int .i64 0, .string ⟨#[]⟩, .int .i64 0] 34)) := (Below.refl _ _).alloc (Nat.le_refl _) _
  have hblk := heap_alloc_new w (.cells #[.int .i64 0, .string ⟨#[]⟩, .int .i64 0] 34)
  have hs2 := hsb.below hba hba.size
  have h0 := hsb.2 p hp
  have HTX : Hid (∀ k, p ≤ k → k ≤ l.length → (convert 22 9 (.slice (some ⟨b, o + p, none⟩) (k - p) (cap - p))).run Tryd.prog (w.alloc (.cells #[.int .i64 0, .string ⟨#[]⟩, .int .i64 0] 34)) = .ok (.string ⟨((l.drop p).take (k - p)).toArray⟩) (w.alloc (.cells #[.int .i64 0, .string ⟨#[]⟩, .int .i64 0] 34))) := fun k h1 h2 => by
    have hs3 : SB (w.alloc (.cells #[.int .i64 0, .string ⟨#[]⟩, .int .i64 0] 34)) (w.alloc (.cells #[.int .i64 0, .string ⟨#[]⟩, .int .i64 0] 34)).heap.size ((l.drop p).take (k - p)) (some ⟨b, o + p, none⟩) b (o + p) := ⟨fun _ => ⟨rfl, Nat.lt_of_lt_of_le hbl hba.size⟩, (hs2.2.drop p).take _⟩
    have := hs3.text (P := Tryd.prog) 22 5 9 Tryd.underlying22 Tryd.underlying5 Tryd.underlying9 (cap - p)
    rwa [List.length_take, List.length_drop, Nat.min_eq_left (by omega)] at this
  have HS := Lib.hid hs2
  have HBA := Lib.hid hba
  have HBK := Lib.hid hblk
  have HLT := Lib.hid (letter_any l[p] (w.alloc (.cells #[.int .i64 0, .string ⟨#[]⟩, .int .i64 0] 34)))
  rw [hsm] at HLT
  have HDG := Lib.hid (digit_any l[p] (w.alloc (.cells #[.int .i64 0, .string ⟨#[]⟩, .int .i64 0] 34)))
  rw [hdg] at HDG
  have HIN := Lib.hid (fun (k : Nat) (h : k < l.length) => digit_any l[k] (w.alloc (.cells #[.int .i64 0, .string ⟨#[]⟩, .int .i64 0] 34)))
  have HOK : Hid (∀ k, p ≤ k → k ≤ l.length → (l.drop p).takeWhile digitB = (l.drop p).take (k - p) → ∀ W : World, Below w.heap.size w W → OnePost l p w (.returned (.tuple #[.agg #[.int .i64 2, .string ⟨((l.drop p).take (k - p)).toArray⟩, .int .i64 (p : Int)], .bool (numB ((l.drop p).take (k - p)))])) W) := fun k h1 h2 ht W hb => by
    have hn : nextF (l.drop p) = (2, (l.drop p).take (k - p), numB ((l.drop p).take (k - p))) := by
      rw [List.drop_eq_getElem_cons hp] at ht ⊢
      rw [nextF, if_neg (by simp [hsm]), if_pos hdg, ht]
    exact ⟨_, _, _, _, rfl, by rw [hn], fun _ => by rw [hn]; exact ⟨rfl, rfl, rfl⟩, hb⟩
  clear hsb hba hblk hs2
  generalize (l[p].toNat : Int) = cp at *
  go_enter Tryd.func21, Tryd.ntmps21
  go_wp2_with (first | (go_at_call 32; refine HLT.out.mono ?_; rintro e w' ⟨rfl, rfl⟩) | (go_at_call 35; refine HDG.out.mono ?_; rintro e w' ⟨rfl, rfl⟩))
  generalize w.alloc (.cells #[.int .i64 0, .string ⟨#[]⟩, .int .i64 0] 34) = w1 at *
  clear h0
  go_loop [6] (fun i => ∃ k : Nat, i = .int .i64 k ∧ p ≤ k ∧ k ≤ l.length ∧ Hid (AllIn digitB l p k)) (fun i => l.length - (intOf i).toNat)
  case atStart => exact ⟨p, rfl, Nat.le_refl _, by omega, fun i _ h1 h2 => by omega⟩
  case round =>
    obtain ⟨k, rfl, hpk, hk, HAI⟩ := hrel
    by_cases hkl : k < l.length
    · have hck := HS.out.2 k hkl
      have HCK := Lib.hid (HIN.out k hkl)
      cases hin : digitB l[k]
      · rw [hin] at HCK
        have hrun := HAI.out.run hpk hk (fun _ => hin)
        have hpk2 : p < k := by
          rcases Nat.lt_or_eq_of_le hpk with h | rfl
          · exact h
          · rw [hdg] at hin; cases hin
        have HFIN := Lib.hid (HOK.out k hpk hk hrun)
        have htx := HTX.out k hpk hk
        have hdl : (⟨((l.drop p).take (k - p)).toArray⟩ : ByteArray).data.toList = (l.drop p).take (k - p) := by simp
        have hwd := numR_any ⟨((l.drop p).take (k - p)).toArray⟩ w1 (by rw [size_mk, List.length_take]; omega)
        rw [hdl] at hwd
        have HWD := Lib.hid hwd
        obtain ⟨f0, f1, f2, x0, x1, x2⟩ := res3 HBK.out
        clear hrun hwd hdl HOK HTX hin
        generalize (l.drop p).take (k - p) = tx at *
        generalize numB tx = ok at *
        generalize (l[k].toNat : Int) = ck at *
        go_wp2_with (first | (go_at_call 36; refine HWD.out.mono ?_; rintro e w' ⟨rfl, rfl⟩) | (go_at_call 35; refine HCK.out.mono ?_; rintro e w' ⟨rfl, rfl⟩))
        refine bodyPost_ret (v := .tuple #[.agg #[.int .i64 2, .string ⟨tx.toArray⟩, .int .i64 (p : Int)], .bool ok]) (by simp [results, Tryd.results21, go_sem, *]) rfl ?_
        exact HFIN.out _ (put3_below _ _ _ HBA.out (Nat.le_refl _))
      · rw [hin] at HCK
        have HA2 := Lib.hid (HAI.out.next hkl hin)
        clear hin
        generalize (l[k].toNat : Int) = ck at *
        go_wp2_with (go_at_call 35; refine HCK.out.mono ?_; rintro e w' ⟨rfl, rfl⟩)
        go_round
        case rel => exact ⟨k + 1, by go_num, by omega, by omega, HA2.out⟩
        case measure => simp [intOf]; omega
    · have hrun := HAI.out.run hpk hk (fun h => absurd h hkl)
      have hpk2 : p < k := by
        rcases Nat.lt_or_eq_of_le hpk with h | rfl
        · exact h
        · omega
      have HFIN := Lib.hid (HOK.out k hpk hk hrun)
      have htx := HTX.out k hpk hk
      have hdl : (⟨((l.drop p).take (k - p)).toArray⟩ : ByteArray).data.toList = (l.drop p).take (k - p) := by simp
      have hwd := numR_any ⟨((l.drop p).take (k - p)).toArray⟩ w1 (by rw [size_mk, List.length_take]; omega)
      rw [hdl] at hwd
      have HWD := Lib.hid hwd
      obtain ⟨f0, f1, f2, x0, x1, x2⟩ := res3 HBK.out
      clear hrun hwd hdl HOK HTX HS
      generalize (l.drop p).take (k - p) = tx at *
      generalize numB tx = ok at *
      skip
      go_wp2_with (first | (go_at_call 36; refine HWD.out.mono ?_; rintro e w' ⟨rfl, rfl⟩))
      refine bodyPost_ret (v := .tuple #[.agg #[.int .i64 2, .string ⟨tx.toArray⟩, .int .i64 (p : Int)], .bool ok]) (by simp [results, Tryd.results21, go_sem, *]) rfl ?_
      exact HFIN.out _ (put3_below _ _ _ HBA.out (Nat.le_refl _))
end Go.Proofs.YtpcbaokplifcoaaDoor
