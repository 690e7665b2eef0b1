/- live: the chapter's examples. -/
import Derived.Test.YtpcbaokplifcoaaDoorLexG
import Derived.Lib.SlBytesConst
namespace Go.Proofs.YtpcbaokplifcoaaDoor
open Go.RowKit Go.Chalk

def wantT : List Tok := [⟨1, [97, 116], 0⟩, ⟨3, [40], 2⟩, ⟨1, [108], 3⟩, ⟨3, [44], 4⟩, ⟨1, [115], 6⟩, ⟨3, [41], 7⟩, ⟨4, [], 9⟩]
def moreT : List Tok := [⟨1, [97], 0⟩, ⟨3, [45, 62], 1⟩, ⟨3, [33, 61], 3⟩, ⟨4, [], 5⟩]
theorem live_1 : tokensF [97, 116, 40, 108, 44, 32, 115, 41, 35] = (wantT, 0, 0) := by rfl
theorem live_2 : tokensF [97, 45, 62, 33, 61] = (moreT, 0, 0) := by rfl
theorem live_3 : tokensF [48, 55] = ([], 0, 50) := by rfl
theorem live_4 : tokensF [45] = ([], 0, 50) := by rfl
theorem live_5 : joinF wantT = ([97, 116, 32, 40, 32, 108, 32, 44, 32, 115, 32, 41], 0) := by rfl

theorem tokens_lit (l : Bs) (n : Nat) (cs : Array Value) (fz : Nat × Nat) (W : World) (H : Nat) (hH : W.heap.size = H) (hn : l.length = n) (hcs : (l.map fun c => Value.int .u8 (c.toNat : Int)).toArray = cs) (hg : GAt W) :
    Calls Tryd.prog 10 #[.slice (some ⟨H, 0, none⟩) n n] (W.alloc (.cells cs 5 fz)) (fun e w' => ∃ v q, e = .returned (.tuple #[v, .int .i64 ((tokensF l).2.1 : Int), .int .i64 (tokensF l).2.2]) ∧ OwnT w' 34 v q (tokensF l).1 ∧ Below W.heap.size W w') := by
  subst hn
  subst hcs
  subst hH
  have hba : Below W.heap.size W (W.alloc (.cells (l.map fun c => Value.int .u8 (c.toNat : Int)).toArray 5 fz)) := (Below.refl _ _).alloc (Nat.le_refl _) _
  refine (tokens_any l (some ⟨W.heap.size, 0, none⟩) W.heap.size 0 l.length _ ⟨fun _ => ⟨rfl, by simp⟩, fun i hi => ?_⟩ (Nat.le_refl _) (hg.below hba)).mono ?_
  · rw [Nat.zero_add]
    exact cell_of_heap (heap_alloc_new _ _) (by simp [hi])
  · rintro e w' ⟨v, q, h1, h2, _, h3⟩
    exact ⟨v, q, h1, h2, hba.trans (h3.mono hba.size)⟩

theorem conv_second (W : World) (b : Obj) (C : Array Value) (n c : Nat) :
    (convert 22 22 (.slice (some ⟨W.heap.size + 1, 0, none⟩) n c)).run Tryd.prog ((W.alloc b).alloc (.cells C 5)) = .ok (.slice (some ⟨W.heap.size + 1, 0, none⟩) n c) ((W.alloc b).alloc (.cells C 5 (C.size, C.size + 1))) := by
  have h := Lib.run_convert_bytes_const (P := Tryd.prog) (W.alloc b) 22 5 C n c Tryd.underlying22 Tryd.underlying5
  rwa [World.size_alloc] at h

theorem want_read {W : World} {B k : Nat} (h : W.heap[k]? = some (.cells #[.int .i64 1, .string ⟨#[97, 116]⟩, .int .i64 0, .int .i64 3, .string ⟨#[40]⟩, .int .i64 2, .int .i64 1, .string ⟨#[108]⟩, .int .i64 3, .int .i64 3, .string ⟨#[44]⟩, .int .i64 4, .int .i64 1, .string ⟨#[115]⟩, .int .i64 6, .int .i64 3, .string ⟨#[41]⟩, .int .i64 7, .int .i64 4, .string ⟨#[]⟩, .int .i64 9] 34 (0, 0))) (hk : k < B) : TksV W B wantT (placesF wantT) (some ⟨k, 0, none⟩) k 0 := by
  refine ⟨fun _ => ⟨rfl, hk⟩, fun i hi => ?_⟩
  have hi' : i < 7 := hi
  have : i = 0 ∨ i = 1 ∨ i = 2 ∨ i = 3 ∨ i = 4 ∨ i = 5 ∨ i = 6 := by omega
  rcases this with rfl | rfl | rfl | rfl | rfl | rfl | rfl <;> exact ⟨cell_of_heap h rfl, cell_of_heap h rfl, cell_of_heap h rfl⟩

set_option maxRecDepth 100000 in
set_option maxHeartbeats 2000000 in
theorem live_any (w : World) (hg : GAt w) : Calls Tryd.prog 9 #[] w fun e w' => e = .returned (.bool true) ∧ Below w.heap.size w w' := by
  have HG := Lib.hid hg
  have kc := fun (w : World) (C : Array Value) (n c : Nat) => Lib.run_convert_bytes_const (P := Tryd.prog) w 22 5 C n c Tryd.underlying22 Tryd.underlying5
  have HT1 := Lib.hid (fun fz => tokens_lit [97, 116, 40, 108, 44, 32, 115, 41, 35] 9 #[.int .u8 97, .int .u8 116, .int .u8 40, .int .u8 108, .int .u8 44, .int .u8 32, .int .u8 115, .int .u8 41, .int .u8 35] fz w _ rfl rfl rfl hg)
  clear hg
  go_enter Tryd.func9, Tryd.ntmps9
  go_wp2_with fail
  refine (HT1.out _).mono ?_
  rintro e w1 ⟨v1, q1, rfl, ho1, hb1⟩
  rw [live_1] at ho1 ⊢
  simp only at ho1 ⊢
  have HO1 := Lib.hid ho1
  have HB1 := Lib.hid hb1
  clear ho1 hb1
  obtain ⟨wl, hwl⟩ : ∃ wl : List Tok, wl = wantT := ⟨_, rfl⟩
  rw [← hwl] at HO1
  obtain ⟨a1, b1, o1, cap1, rfl, hr1, hc1⟩ := HO1.out.read
  have hl7 : wl.length = 7 := by rw [hwl]; rfl
  rw [hl7] at hc1 ⊢
  have HR1 := Lib.hid hr1
  have HWL := Lib.hid hwl
  have HL7 := Lib.hid hl7
  clear hr1 hwl hl7
  have hbw : Below w1.heap.size w1 (w1.alloc (.cells #[.int .i64 1, .string ⟨#[97, 116]⟩, .int .i64 0, .int .i64 3, .string ⟨#[40]⟩, .int .i64 2, .int .i64 1, .string ⟨#[108]⟩, .int .i64 3, .int .i64 3, .string ⟨#[44]⟩, .int .i64 4, .int .i64 1, .string ⟨#[115]⟩, .int .i64 6, .int .i64 3, .string ⟨#[41]⟩, .int .i64 7, .int .i64 4, .string ⟨#[]⟩, .int .i64 9] 34)) := (Below.refl _ _).alloc (Nat.le_refl _) _
  have hblk := heap_alloc_new w1 (.cells #[.int .i64 1, .string ⟨#[97, 116]⟩, .int .i64 0, .int .i64 3, .string ⟨#[40]⟩, .int .i64 2, .int .i64 1, .string ⟨#[108]⟩, .int .i64 3, .int .i64 3, .string ⟨#[44]⟩, .int .i64 4, .int .i64 1, .string ⟨#[115]⟩, .int .i64 6, .int .i64 3, .string ⟨#[41]⟩, .int .i64 7, .int .i64 4, .string ⟨#[]⟩, .int .i64 9] 34)
  have HBW := Lib.hid hbw
  have HBLK := Lib.hid hblk
  have HT2 := Lib.hid (fun fz => tokens_lit [97, 45, 62, 33, 61] 5 #[.int .u8 97, .int .u8 45, .int .u8 62, .int .u8 33, .int .u8 61] fz _ (w1.heap.size + 1) (by simp) rfl rfl (HG.out.below (HB1.out.trans (hbw.mono HB1.out.size))))
  clear hbw hblk
  have kc2 := conv_second
  go_wp2_with fail
  refine (HT2.out _).mono ?_
  clear kc2
  rintro e w2 ⟨v2, q2, rfl, ho2, hb2⟩
  rw [live_2] at ho2 ⊢
  simp only at ho2 ⊢
  have HB12 := Lib.hid (HBW.out.trans (hb2.mono HBW.out.size))
  have HBLK2 : Hid (w2.heap[w1.heap.size]? = some (.cells #[.int .i64 1, .string ⟨#[97, 116]⟩, .int .i64 0, .int .i64 3, .string ⟨#[40]⟩, .int .i64 2, .int .i64 1, .string ⟨#[108]⟩, .int .i64 3, .int .i64 3, .string ⟨#[44]⟩, .int .i64 4, .int .i64 1, .string ⟨#[115]⟩, .int .i64 6, .int .i64 3, .string ⟨#[41]⟩, .int .i64 7, .int .i64 4, .string ⟨#[]⟩, .int .i64 9] 34 (0, 0))) := (hb2.block _ (by simp)).trans HBLK.out
  obtain ⟨a2, b2, o2, cap2, rfl, hr2, hc2⟩ := ho2.read
  have hm4 : moreT.length = 4 := rfl
  obtain ⟨_, hm1, _⟩ := hr2.2 1 (by decide)
  obtain ⟨rfl, hbl2⟩ := hr2.1 (by decide)
  rw [hm4]
  simp only [hm4] at hc2
  have hm1' : w2.cell? ⟨b2, o2 + 1 * 3 + 1, none⟩ = some (.string ⟨#[45, 62]⟩) := hm1
  have HM1 := Lib.hid hm1'
  have HB2 := Lib.hid (HB1.out.trans (HB12.out.mono HB1.out.size))
  clear ho2 hb2 hr2 hm1 hm1' hm4
  have HT3 := Lib.hid (fun fz => tokens_lit [48, 55] 2 #[.int .u8 48, .int .u8 55] fz w2 _ rfl rfl rfl (HG.out.below HB2.out))
  go_wp2_with fail
  refine (HT3.out _).mono ?_
  rintro e w3 ⟨v3, q3, rfl, ho3, hb3⟩
  rw [live_3] at ho3 ⊢
  simp only at ho3 ⊢
  have HB23 := Lib.hid hb3
  have HB3 := Lib.hid (HB2.out.trans (hb3.mono HB2.out.size))
  clear ho3 hb3
  have HT4 := Lib.hid (fun fz => tokens_lit [45] 1 #[.int .u8 45] fz w3 _ rfl rfl rfl (HG.out.below HB3.out))
  go_wp2_with fail
  refine (HT4.out _).mono ?_
  rintro e w4 ⟨v4, q4, rfl, ho4, hb4⟩
  rw [live_4] at ho4 ⊢
  simp only at ho4 ⊢
  have HB24 := Lib.hid (HB23.out.trans (hb4.mono HB23.out.size))
  have HB4 := Lib.hid (HB3.out.trans (hb4.mono HB3.out.size))
  clear ho4 hb4
  have HB14 := Lib.hid (HB12.out.trans (HB24.out.mono HB12.out.size))
  have hjn := join_any wl _ a1 b1 o1 cap1 w4 (HR1.out.below HB14.out HB14.out.size) (by rw [HL7.out]; exact hc1) (by rw [HWL.out]; decide) (HG.out.below HB4.out) (by rw [HL7.out]; decide) (by rw [HWL.out]; decide)
  rw [HL7.out] at hjn
  have HJN := Lib.hid hjn
  clear hjn
  go_wp2_with fail
  refine HJN.out.mono ?_
  rintro e w5 ⟨v5, rfl, hv5, hb5⟩
  rw [HWL.out, live_5] at hv5 ⊢
  simp only at hv5 ⊢
  obtain ⟨a5, b5, o5, cap5, rfl, hs5, hc5⟩ := hv5
  have HS5 := Lib.hid hs5
  have HB15 := Lib.hid (HB14.out.trans (hb5.mono HB14.out.size))
  have HB25 := Lib.hid (HB24.out.trans (hb5.mono HB24.out.size))
  have HB5 := Lib.hid (HB4.out.trans (hb5.mono HB4.out.size))
  clear hs5 hb5
  have hs2 := HB12.out.size
  have hlt12 : w1.heap.size < w2.heap.size := (Array.getElem?_eq_some_iff.1 HBLK2.out).1
  have hsa := same_any wl (placesF wl) a1 (some ⟨w1.heap.size, 0, none⟩) b1 o1 cap1 w1.heap.size 0 7 w5 (HR1.out.below HB15.out HB15.out.size) (by rw [HWL.out]; exact want_read ((HB25.out.block _ hlt12).trans HBLK2.out) (Nat.lt_of_lt_of_le hlt12 HB25.out.size)) (by rw [HL7.out]; decide)
  rw [HL7.out] at hsa
  have HSA := Lib.hid hsa
  clear hsa
  go_wp2_with (go_at_call 12; refine HSA.out.mono ?_; rintro e w6 ⟨rfl, hb6⟩; have hz1 := (hb6.cell (p := ⟨b2, o2 + 1 * 3 + 1, none⟩) (Nat.lt_of_lt_of_le hbl2 HB25.out.size)).trans ((HB25.out.cell (p := ⟨b2, o2 + 1 * 3 + 1, none⟩) hbl2).trans HM1.out); have htx := (HS5.out.below hb6 hb6.size).text (P := Tryd.prog) 22 5 9 Tryd.underlying22 Tryd.underlying5 Tryd.underlying9 cap5; have HB6 := Lib.hid (HB5.out.trans (hb6.mono HB5.out.size)); clear hb6; (try simp only [List.length_cons, List.length_nil, Nat.zero_add, Nat.reduceAdd, Nat.reduceMul] at hz1 htx))
  go_ret
  exact ⟨by simp, HB6.out⟩
end Go.Proofs.YtpcbaokplifcoaaDoor
