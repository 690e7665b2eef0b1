/- Joined texts: Live1, Live2, Live, Kit. -/
import Derived.Test.YtlfjjokcbeaekaaGreatDoorB41
import Derived.Deep.RegionHeld3
import Derived.Test.YtlfjjokcbeaekaaGreatDoorB33

/- The memory that the law's live lays. -/
namespace Go.Chalk
open Go.RowKit
theorem str_at {W : World} {F : Nat → Prop} (n : Bs) (h : n.length ≤ 4000000) : DAt W F (.str ⟨n.toArray⟩) [.string ⟨n.toArray⟩] := by
  rw [DAt]; exact ⟨rfl, by rw [bs_size]; unfold maxLen; omega⟩
theorem int_at {W : World} {F : Nat → Prop} (n : Int) (h : -1000 ≤ n ∧ n ≤ 1000) : DAt W F (.int .i64 n) [.int .i64 n] := by
  rw [DAt]; exact ⟨rfl, I64.wf (show I64 n by unfold I64; omega)⟩
theorem nil_at {W : World} {F : Nat → Prop} : DAt W F (.sl []) [.slice none 0 0] := DAt.sl_iff.2 ⟨⟨none, 0, 0, 0⟩, rfl, SlIn.nil (Nat.zero_le _) _ _ _⟩
theorem dcons {W : World} {F : Nat → Prop} {x : D} {xs : List D} {cs ds : List Value} (h : DAt W F x cs) (k : DsAt W F xs ds) : DsAt W F (x :: xs) (cs ++ ds) := by rw [DsAt]; exact ⟨cs, ds, rfl, h, k⟩
theorem dnil {W : World} {F : Nat → Prop} : DsAt W F [] [] := by rw [DsAt]
theorem ex_slots {W : World} {F : Nat → Prop} : DsAt W F (exS.slots.map Slt.toD) [.string ⟨#[97]⟩, .int .i64 0, .int .i64 0, .string ⟨#[98]⟩, .int .i64 0, .int .i64 1] := by
  have h1 : DAt W F (Slt.toD ⟨[97], 0, 0⟩) [.string ⟨#[97]⟩, .int .i64 0, .int .i64 0] := by rw [Slt.toD, DAt]; exact dcons (str_at [97] (by decide)) (dcons (int_at 0 (by decide)) (dcons (int_at 0 (by decide)) dnil))
  have h2 : DAt W F (Slt.toD ⟨[98], 0, 1⟩) [.string ⟨#[98]⟩, .int .i64 0, .int .i64 1] := by rw [Slt.toD, DAt]; exact dcons (str_at [98] (by decide)) (dcons (int_at 0 (by decide)) (dcons (int_at 1 (by decide)) dnil))
  exact dcons h1 (dcons h2 dnil)
theorem ex_rooms {W : World} {F : Nat → Prop} : DsAt W F (exS.rooms.map Rom.toD) [.string ⟨#[114]⟩, .int .i64 0, .int .i64 0, .slice none 0 0] := by
  have h1 : DAt W F (Rom.toD ⟨[114], 0, 0, []⟩) [.string ⟨#[114]⟩, .int .i64 0, .int .i64 0, .slice none 0 0] := by rw [Rom.toD, DAt]; exact dcons (str_at [114] (by decide)) (dcons (int_at 0 (by decide)) (dcons (int_at 0 (by decide)) (dcons nil_at dnil)))
  exact dcons h1 dnil
theorem ex_lessons {W : World} {F : Nat → Prop} : DsAt W F (exS.lessons.map Lsn.toD) [.string ⟨#[120]⟩, .slice none 0 0, .slice none 0 0, .string ⟨#[121]⟩, .slice none 0 0, .slice none 0 0] := by
  have h1 : ∀ c : UInt8, DAt W F (Lsn.toD ⟨[c], [], []⟩) [.string ⟨#[c]⟩, .slice none 0 0, .slice none 0 0] := fun c => by rw [Lsn.toD, DAt]; exact dcons (str_at [c] (by show (1 : Nat) ≤ _; omega)) (dcons nil_at (dcons nil_at dnil))
  exact dcons (h1 120) (dcons (h1 121) dnil)
theorem ex_binds {W : World} {F : Nat → Prop} : DsAt W F (exB.map Bnd.toD) [.string ⟨#[108]⟩, .int .i64 1, .string ⟨#[109]⟩, .int .i64 1] := by
  have h1 : ∀ c : UInt8, DAt W F (Bnd.toD ⟨[c], 1⟩) [.string ⟨#[c]⟩, .int .i64 1] := fun c => by rw [Bnd.toD, DAt]; exact dcons (str_at [c] (by show (1 : Nat) ≤ _; omega)) (dcons (int_at 1 (by decide)) dnil)
  exact dcons (h1 108) (dcons (h1 109) dnil)
theorem ex_plc {W : World} {F : Nat → Prop} (a b : Int) (ha : -1000 ≤ a ∧ a ≤ 1000) (hb : -1000 ≤ b ∧ b ≤ 1000) : DsAt W F (([⟨a, 0⟩, ⟨b, 0⟩] : List Plc).map Plc.toD) [.int .i64 a, .int .i64 0, .int .i64 b, .int .i64 0] := by
  have h1 : ∀ c : Int, -1000 ≤ c ∧ c ≤ 1000 → DAt W F (Plc.toD ⟨c, 0⟩) [.int .i64 c, .int .i64 0] := fun c hc => by rw [Plc.toD, DAt]; exact dcons (int_at c hc) (dcons (int_at 0 (by decide)) dnil)
  exact dcons (h1 a ha) (dcons (h1 b hb) dnil)
/-- Where the example's school lies. -/
def exAt (B : Nat) : SchA := ⟨⟨some ⟨B, 0, none⟩, B, 0, 2⟩, ⟨some ⟨B + 1, 0, none⟩, B + 1, 0, 1⟩, ⟨none, 0, 0, 0⟩, ⟨none, 0, 0, 0⟩, ⟨some ⟨B + 1 + 1, 0, none⟩, B + 1 + 1, 0, 2⟩⟩
end Go.Chalk
namespace Go.Proofs.YtlfjjokcbeaekaaGreatDoor
open Go.RowKit Go.Chalk
structure Lv0 (w W : World) : Prop where
  below : Below w.heap.size w W
  sch : SchIn W (· < W.heap.size) exS (exAt w.heap.size)
  box : SchBox W (w.heap.size + 1 + 1 + 1) exS (exAt w.heap.size)
  binds : SlIn W (· < W.heap.size) (exB.map Bnd.toD) ⟨some ⟨w.heap.size + 1 + 1 + 1 + 1, 0, none⟩, w.heap.size + 1 + 1 + 1 + 1, 0, 2⟩
  gg : GG W
theorem Lv0.later {w W W' : World} (h : Lv0 w W) (hb : Below W.heap.size W W') : Lv0 w W' :=
  ⟨h.below.trans (hb.mono h.below.size), h.sch.later hb hb.size, h.box.below hb, h.binds.later hb hb.size, h.gg.below hb⟩
theorem lv0_start (w : World) (hg : GG w) : Lv0 w (((((w.alloc (.cells #[.string ⟨#[97]⟩, .int .i64 0, .int .i64 0, .string ⟨#[98]⟩, .int .i64 0, .int .i64 1] 80)).alloc (.cells #[.string ⟨#[114]⟩, .int .i64 0, .int .i64 0, .slice none 0 0] 82)).alloc (.cells #[.string ⟨#[120]⟩, .slice none 0 0, .slice none 0 0, .string ⟨#[121]⟩, .slice none 0 0, .slice none 0 0] 84)).alloc
    (.cells #[.slice (some ⟨w.heap.size, 0, none⟩) 2 2, .slice (some ⟨w.heap.size + 1, 0, none⟩) 1 1, .slice none 0 0, .slice none 0 0, .slice (some ⟨w.heap.size + 1 + 1, 0, none⟩) 2 2] 28)).alloc (.cells #[.string ⟨#[108]⟩, .int .i64 1, .string ⟨#[109]⟩, .int .i64 1] 47)) := by
  obtain ⟨W1, hW1⟩ : ∃ W1, W1 = w.alloc (.cells #[.string ⟨#[97]⟩, .int .i64 0, .int .i64 0, .string ⟨#[98]⟩, .int .i64 0, .int .i64 1] 80) := ⟨_, rfl⟩
  rw [← hW1]
  have s1 : W1.heap.size = w.heap.size + 1 := by rw [hW1]; simp
  have b1 : Below w.heap.size w W1 := by rw [hW1]; exact (Below.refl _ _).alloc (Nat.le_refl _) _
  have x1 : SlIn W1 (· < W1.heap.size) (exS.slots.map Slt.toD) (exAt w.heap.size).slots := by rw [hW1]; exact (SlIn.lit' (lo := 0) (Nat.zero_le _) ex_slots rfl (by decide)).mono (fun k hk => hk.2)
  clear hW1
  obtain ⟨W2, hW2⟩ : ∃ W2, W2 = W1.alloc (.cells #[.string ⟨#[114]⟩, .int .i64 0, .int .i64 0, .slice none 0 0] 82) := ⟨_, rfl⟩
  rw [← hW2]
  have s2 : W2.heap.size = w.heap.size + 1 + 1 := by rw [hW2]; simp [s1]
  have b2 : Below W1.heap.size W1 W2 := by rw [hW2]; exact (Below.refl _ _).alloc (Nat.le_refl _) _
  have x2 : SlIn W2 (· < W2.heap.size) (exS.rooms.map Rom.toD) (exAt w.heap.size).rooms := by
    have h := (SlIn.lit' (w := W1) (lo := 0) (e := 82) (Nat.zero_le _) ex_rooms rfl (by decide)).mono (fun k hk => hk.2)
    rw [hW2]; rw [s1] at h; exact h
  clear hW2
  obtain ⟨W3, hW3⟩ : ∃ W3, W3 = W2.alloc (.cells #[.string ⟨#[120]⟩, .slice none 0 0, .slice none 0 0, .string ⟨#[121]⟩, .slice none 0 0, .slice none 0 0] 84) := ⟨_, rfl⟩
  rw [← hW3]
  have s3 : W3.heap.size = w.heap.size + 1 + 1 + 1 := by rw [hW3]; simp [s2]
  have b3 : Below W2.heap.size W2 W3 := by rw [hW3]; exact (Below.refl _ _).alloc (Nat.le_refl _) _
  have x3 : SlIn W3 (· < W3.heap.size) (exS.lessons.map Lsn.toD) (exAt w.heap.size).lessons := by
    have h := (SlIn.lit' (w := W2) (lo := 0) (e := 84) (Nat.zero_le _) ex_lessons rfl (by decide)).mono (fun k hk => hk.2)
    rw [hW3]; rw [s2] at h; exact h
  clear hW3
  have b13 := b2.trans (b3.mono b2.size)
  have hs3 : SchIn W3 (· < W3.heap.size) exS (exAt w.heap.size) := ⟨x1.later b13 b13.size, x2.later b3 b3.size, SlIn.nil (Nat.zero_le _) _ _ _, SlIn.nil (Nat.zero_le _) _ _ _, x3⟩
  have bw3 := b1.trans (b13.mono b1.size)
  clear x1 x2 x3 b1 b2 b3 b13
  obtain ⟨W4, hW4⟩ : ∃ W4, W4 = W3.alloc (.cells #[.slice (some ⟨w.heap.size, 0, none⟩) 2 2, .slice (some ⟨w.heap.size + 1, 0, none⟩) 1 1, .slice none 0 0, .slice none 0 0, .slice (some ⟨w.heap.size + 1 + 1, 0, none⟩) 2 2] 28) := ⟨_, rfl⟩
  rw [← hW4]
  have s4 : W4.heap.size = w.heap.size + 1 + 1 + 1 + 1 := by rw [hW4]; simp [s3]
  have b4 : Below W3.heap.size W3 W4 := by rw [hW4]; exact (Below.refl _ _).alloc (Nat.le_refl _) _
  have x4 : SchBox W4 (w.heap.size + 1 + 1 + 1) exS (exAt w.heap.size) := by rw [hW4]; unfold SchBox; rw [heap_get, if_pos s3.symm]; rfl
  clear hW4
  obtain ⟨W5, hW5⟩ : ∃ W5, W5 = W4.alloc (.cells #[.string ⟨#[108]⟩, .int .i64 1, .string ⟨#[109]⟩, .int .i64 1] 47) := ⟨_, rfl⟩
  rw [← hW5]
  have b5 : Below W4.heap.size W4 W5 := by rw [hW5]; exact (Below.refl _ _).alloc (Nat.le_refl _) _
  have x5 : SlIn W5 (· < W5.heap.size) (exB.map Bnd.toD) ⟨some ⟨w.heap.size + 1 + 1 + 1 + 1, 0, none⟩, w.heap.size + 1 + 1 + 1 + 1, 0, 2⟩ := by
    have h := (SlIn.lit' (w := W4) (lo := 0) (e := 47) (Nat.zero_le _) ex_binds rfl (by decide)).mono (fun k hk => hk.2)
    rw [hW5]; rw [s4] at h; exact h
  have b35 := b4.trans (b5.mono b4.size)
  have bw5 := bw3.trans (b35.mono bw3.size)
  exact ⟨bw5, hs3.later b35 b35.size, x4.below b5, x5, hg.below bw5⟩
theorem exS_fit : SchFit exS := by
  refine ⟨⟨by decide, by decide, by decide, by decide, by decide⟩, fun sort x hx => ?_, by decide, by decide, by decide, by decide⟩
  have h : ∀ k : Int, ∀ x ∈ schNames exS k, x.length ≤ 100 := by
    intro k x hx
    unfold schNames at hx
    split at hx
    · revert x; decide
    split at hx
    · revert x; decide
    split at hx
    · revert x; decide
    split at hx
    · revert x; decide
    split at hx
    · revert x; decide
    split at hx
    · revert x; decide
    split at hx
    · revert x; decide
    · cases hx
  have := h sort x hx; omega
theorem exA_fit : FrmFit exA := ⟨by decide, by unfold FrmSm; decide +kernel⟩
theorem exF_fit : FrmFit exF := ⟨by decide, by unfold FrmSm; decide +kernel⟩
theorem exR_fit : ∀ r ∈ exR, RulFit r := by
  intro r hr
  simp only [exR, List.mem_cons, List.not_mem_nil, or_false] at hr
  rcases hr with rfl | rfl
  · exact ⟨by decide, by decide, by decide, exF_fit⟩
  · exact ⟨by decide, by decide, by decide, exF_fit⟩
/-- The formula, the weeks. -/
structure Lv1 (w W : World) (N : Nat) (y : FrmA) : Prop extends Lv0 w W where
  frm : FrmIn W (· < W.heap.size) exA y
  fbox : W.heap[N]? = some (.cells #[.int .i64 14, .string ⟨#[]⟩, .int .i64 0, .slice y.t.a 0 y.t.cap, .slice y.b.a 2 y.b.cap, .slice y.l.a 1 y.l.cap] 37 (0, 0))
  wk1 : SlIn W (· < W.heap.size) (([⟨0, 0⟩, ⟨1, 0⟩] : List Plc).map Plc.toD) ⟨some ⟨N + 1, 0, none⟩, N + 1, 0, 2⟩
  wb1 : W.heap[N + 1 + 1]? = some (.cells #[.slice (some ⟨N + 1, 0, none⟩) 2 2] 31 (0, 0))
  wk2 : SlIn W (· < W.heap.size) (([⟨1, 0⟩, ⟨1, 0⟩] : List Plc).map Plc.toD) ⟨some ⟨N + 1 + 1 + 1, 0, none⟩, N + 1 + 1 + 1, 0, 2⟩
  wb2 : W.heap[N + 1 + 1 + 1 + 1]? = some (.cells #[.slice (some ⟨N + 1 + 1 + 1, 0, none⟩) 2 2] 31 (0, 0))
theorem Lv1.later {w W W' : World} {N : Nat} {y : FrmA} (h : Lv1 w W N y) (hb : Below W.heap.size W W') : Lv1 w W' N y :=
  ⟨h.toLv0.later hb, h.frm.later hb hb.size, (hb.block _ (Array.getElem?_eq_some_iff.1 h.fbox).1).trans h.fbox, h.wk1.later hb hb.size, (hb.block _ (Array.getElem?_eq_some_iff.1 h.wb1).1).trans h.wb1, h.wk2.later hb hb.size, (hb.block _ (Array.getElem?_eq_some_iff.1 h.wb2).1).trans h.wb2⟩
theorem lv1_start (w W : World) (y : FrmA) (h0 : Lv0 w W) (hy : FrmIn W (· < W.heap.size) exA y) : Lv1 w (((((W.alloc (.cells #[.int .i64 14, .string ⟨#[]⟩, .int .i64 0, .slice y.t.a 0 y.t.cap, .slice y.b.a 2 y.b.cap, .slice y.l.a 1 y.l.cap] 37)).alloc (.cells #[.int .i64 0, .int .i64 0, .int .i64 1, .int .i64 0] 87)).alloc (.cells #[.slice (some ⟨W.heap.size + 1, 0, none⟩) 2 2] 31)).alloc (.cells #[.int .i64 1, .int .i64 0, .int .i64 1, .int .i64 0] 87)).alloc (.cells #[.slice (some ⟨W.heap.size + 1 + 1 + 1, 0, none⟩) 2 2] 31)) W.heap.size y := by
  obtain ⟨W1, hW1⟩ : ∃ W1, W1 = W.alloc (.cells #[.int .i64 14, .string ⟨#[]⟩, .int .i64 0, .slice y.t.a 0 y.t.cap, .slice y.b.a 2 y.b.cap, .slice y.l.a 1 y.l.cap] 37) := ⟨_, rfl⟩
  rw [← hW1]
  have s1 : W1.heap.size = W.heap.size + 1 := by rw [hW1]; simp
  have b1 : Below W.heap.size W W1 := by rw [hW1]; exact (Below.refl _ _).alloc (Nat.le_refl _) _
  have x1 : W1.heap[W.heap.size]? = some (.cells #[.int .i64 14, .string ⟨#[]⟩, .int .i64 0, .slice y.t.a 0 y.t.cap, .slice y.b.a 2 y.b.cap, .slice y.l.a 1 y.l.cap] 37 (0, 0)) := by rw [hW1, heap_get, if_pos rfl]
  clear hW1
  obtain ⟨W2, hW2⟩ : ∃ W2, W2 = W1.alloc (.cells #[.int .i64 0, .int .i64 0, .int .i64 1, .int .i64 0] 87) := ⟨_, rfl⟩
  rw [← hW2]
  have s2 : W2.heap.size = W.heap.size + 1 + 1 := by rw [hW2]; simp [s1]
  have b2 : Below W1.heap.size W1 W2 := by rw [hW2]; exact (Below.refl _ _).alloc (Nat.le_refl _) _
  have x2 : SlIn W2 (· < W2.heap.size) (([⟨0, 0⟩, ⟨1, 0⟩] : List Plc).map Plc.toD) ⟨some ⟨W.heap.size + 1, 0, none⟩, W.heap.size + 1, 0, 2⟩ := by
    have h := (SlIn.lit' (w := W1) (lo := 0) (e := 87) (Nat.zero_le _) (ex_plc 0 1 (by decide) (by decide)) rfl (by decide)).mono (fun k hk => hk.2)
    rw [hW2]; rw [s1] at h; exact h
  clear hW2
  obtain ⟨W3, hW3⟩ : ∃ W3, W3 = W2.alloc (.cells #[.slice (some ⟨W.heap.size + 1, 0, none⟩) 2 2] 31) := ⟨_, rfl⟩
  rw [← hW3]
  have s3 : W3.heap.size = W.heap.size + 1 + 1 + 1 := by rw [hW3]; simp [s2]
  have b3 : Below W2.heap.size W2 W3 := by rw [hW3]; exact (Below.refl _ _).alloc (Nat.le_refl _) _
  have x3 : W3.heap[W.heap.size + 1 + 1]? = some (.cells #[.slice (some ⟨W.heap.size + 1, 0, none⟩) 2 2] 31 (0, 0)) := by rw [hW3, heap_get, if_pos s2.symm]
  clear hW3
  obtain ⟨W4, hW4⟩ : ∃ W4, W4 = W3.alloc (.cells #[.int .i64 1, .int .i64 0, .int .i64 1, .int .i64 0] 87) := ⟨_, rfl⟩
  rw [← hW4]
  have s4 : W4.heap.size = W.heap.size + 1 + 1 + 1 + 1 := by rw [hW4]; simp [s3]
  have b4 : Below W3.heap.size W3 W4 := by rw [hW4]; exact (Below.refl _ _).alloc (Nat.le_refl _) _
  have x4 : SlIn W4 (· < W4.heap.size) (([⟨1, 0⟩, ⟨1, 0⟩] : List Plc).map Plc.toD) ⟨some ⟨W.heap.size + 1 + 1 + 1, 0, none⟩, W.heap.size + 1 + 1 + 1, 0, 2⟩ := by
    have h := (SlIn.lit' (w := W3) (lo := 0) (e := 87) (Nat.zero_le _) (ex_plc 1 1 (by decide) (by decide)) rfl (by decide)).mono (fun k hk => hk.2)
    rw [hW4]; rw [s3] at h; exact h
  clear hW4
  obtain ⟨W5, hW5⟩ : ∃ W5, W5 = W4.alloc (.cells #[.slice (some ⟨W.heap.size + 1 + 1 + 1, 0, none⟩) 2 2] 31) := ⟨_, rfl⟩
  rw [← hW5]
  have b5 : Below W4.heap.size W4 W5 := by rw [hW5]; exact (Below.refl _ _).alloc (Nat.le_refl _) _
  have x5 : W5.heap[W.heap.size + 1 + 1 + 1 + 1]? = some (.cells #[.slice (some ⟨W.heap.size + 1 + 1 + 1, 0, none⟩) 2 2] 31 (0, 0)) := by rw [hW5, heap_get, if_pos s4.symm]
  clear hW5
  have b35 := b4.trans (b5.mono b4.size)
  have b25 := b3.trans (b35.mono b3.size)
  have b15 := b2.trans (b25.mono b2.size)
  have b05 := b1.trans (b15.mono b1.size)
  exact ⟨h0.later b05, hy.later b05 b05.size, (b15.block _ (Array.getElem?_eq_some_iff.1 x1).1).trans x1, x2.later b25 b25.size, (b35.block _ (Array.getElem?_eq_some_iff.1 x3).1).trans x3, x4.later b5 b5.size, x5⟩
theorem Lv1.reads {w W : World} {N : Nat} {y : FrmA} (h : Lv1 w W N y) :
    (W.cell? ⟨w.heap.size + 1 + 1 + 1, 0, none⟩ = some (.slice (some ⟨w.heap.size, 0, none⟩) 2 2) ∧ W.cell? ⟨w.heap.size + 1 + 1 + 1, 1, none⟩ = some (.slice (some ⟨w.heap.size + 1, 0, none⟩) 1 1) ∧ W.cell? ⟨w.heap.size + 1 + 1 + 1, 2, none⟩ = some (.slice none 0 0) ∧ W.cell? ⟨w.heap.size + 1 + 1 + 1, 3, none⟩ = some (.slice none 0 0) ∧ W.cell? ⟨w.heap.size + 1 + 1 + 1, 4, none⟩ = some (.slice (some ⟨w.heap.size + 1 + 1, 0, none⟩) 2 2)) ∧
    W.cell? ⟨N + 1 + 1, 0, none⟩ = some (.slice (some ⟨N + 1, 0, none⟩) 2 2) ∧ W.cell? ⟨N + 1 + 1 + 1 + 1, 0, none⟩ = some (.slice (some ⟨N + 1 + 1 + 1, 0, none⟩) 2 2) ∧
    (W.cell? ⟨N, 0, none⟩ = some (.int .i64 14) ∧ W.cell? ⟨N, 1, none⟩ = some (.string ⟨#[]⟩) ∧ W.cell? ⟨N, 2, none⟩ = some (.int .i64 0) ∧ W.cell? ⟨N, 3, none⟩ = some (.slice y.t.a 0 y.t.cap) ∧ W.cell? ⟨N, 4, none⟩ = some (.slice y.b.a 2 y.b.cap) ∧ W.cell? ⟨N, 5, none⟩ = some (.slice y.l.a 1 y.l.cap)) :=
  ⟨h.box.cells, cell_of_heap h.wb1 rfl, cell_of_heap h.wb2 rfl, cell_of_heap h.fbox rfl, cell_of_heap h.fbox rfl, cell_of_heap h.fbox rfl, cell_of_heap h.fbox rfl, cell_of_heap h.fbox rfl, cell_of_heap h.fbox rfl⟩
theorem lv_yes {w W : World} {N : Nat} {y : FrmA} (hI : ItoaAt) (h : Lv1 w W N y) : Calls Tryz.prog 11 #[.agg #[.slice (some ⟨w.heap.size, 0, none⟩) 2 2, .slice (some ⟨w.heap.size + 1, 0, none⟩) 1 1, .slice none 0 0, .slice none 0 0, .slice (some ⟨w.heap.size + 1 + 1, 0, none⟩) 2 2], .agg #[.slice (some ⟨N + 1, 0, none⟩) 2 2], .slice none 0 0, .agg #[.int .i64 14, .string ⟨#[]⟩, .int .i64 0, .slice y.t.a 0 y.t.cap, .slice y.b.a 2 y.b.cap, .slice y.l.a 1 y.l.cap]] W fun e w' => e = .returned (.tuple #[.bool true, .int .i64 0]) ∧ Below W.heap.size W w' := by
  have := eholds_any exS (exAt w.heap.size) [⟨0, 0⟩, ⟨1, 0⟩] _ [] ⟨none, 0, 0, 0⟩ exA y W hI exS_fit exA_fit h.gg h.sch h.wk1 (by decide) (SlIn.nil (Nat.zero_le _) _ _ _) (by decide) (fun _ h => by cases h) h.frm
  rw [ex_yes] at this
  exact this
theorem lv_no {w W : World} {N : Nat} {y : FrmA} (hI : ItoaAt) (h : Lv1 w W N y) : Calls Tryz.prog 11 #[.agg #[.slice (some ⟨w.heap.size, 0, none⟩) 2 2, .slice (some ⟨w.heap.size + 1, 0, none⟩) 1 1, .slice none 0 0, .slice none 0 0, .slice (some ⟨w.heap.size + 1 + 1, 0, none⟩) 2 2], .agg #[.slice (some ⟨N + 1 + 1 + 1, 0, none⟩) 2 2], .slice none 0 0, .agg #[.int .i64 14, .string ⟨#[]⟩, .int .i64 0, .slice y.t.a 0 y.t.cap, .slice y.b.a 2 y.b.cap, .slice y.l.a 1 y.l.cap]] W fun e w' => e = .returned (.tuple #[.bool false, .int .i64 0]) ∧ Below W.heap.size W w' := by
  have := eholds_any exS (exAt w.heap.size) [⟨1, 0⟩, ⟨1, 0⟩] _ [] ⟨none, 0, 0, 0⟩ exA y W hI exS_fit exA_fit h.gg h.sch h.wk2 (by decide) (SlIn.nil (Nat.zero_le _) _ _ _) (by decide) (fun _ h => by cases h) h.frm
  rw [ex_no] at this
  exact this
theorem lv_place {w W : World} {N : Nat} {y : FrmA} (hI : ItoaAt) (h : Lv1 w W N y) : Calls Tryz.prog 11 #[.agg #[.slice (some ⟨w.heap.size, 0, none⟩) 2 2, .slice (some ⟨w.heap.size + 1, 0, none⟩) 1 1, .slice none 0 0, .slice none 0 0, .slice (some ⟨w.heap.size + 1 + 1, 0, none⟩) 2 2], .agg #[.slice none 0 0], .slice none 0 0, .agg #[.int .i64 14, .string ⟨#[]⟩, .int .i64 0, .slice y.t.a 0 y.t.cap, .slice y.b.a 2 y.b.cap, .slice y.l.a 1 y.l.cap]] W fun e w' => e = .returned (.tuple #[.bool false, .int .i64 40]) ∧ Below W.heap.size W w' := by
  have := eholds_any exS (exAt w.heap.size) [] ⟨none, 0, 0, 0⟩ [] ⟨none, 0, 0, 0⟩ exA y W hI exS_fit exA_fit h.gg h.sch (SlIn.nil (Nat.zero_le _) _ _ _) (by decide) (SlIn.nil (Nat.zero_le _) _ _ _) (by decide) (fun _ h => by cases h) h.frm
  rw [ex_place] at this
  exact this
theorem lv_var {w W : World} {N : Nat} {y0 y : FrmA} (hI : ItoaAt) (h : Lv1 w W N y0) (hy : FrmIn W (· < W.heap.size) exF y) : Calls Tryz.prog 11 #[.agg #[.slice (some ⟨w.heap.size, 0, none⟩) 2 2, .slice (some ⟨w.heap.size + 1, 0, none⟩) 1 1, .slice none 0 0, .slice none 0 0, .slice (some ⟨w.heap.size + 1 + 1, 0, none⟩) 2 2], .agg #[.slice (some ⟨N + 1 + 1 + 1, 0, none⟩) 2 2], .slice none 0 0, .agg #[.int .i64 12, .string ⟨#[]⟩, .int .i64 0, .slice y.t.a 0 y.t.cap, .slice y.b.a 0 y.b.cap, .slice y.l.a 2 y.l.cap]] W fun e w' => e = .returned (.tuple #[.bool false, .int .i64 81]) ∧ Below W.heap.size W w' := by
  have := eholds_any exS (exAt w.heap.size) [⟨1, 0⟩, ⟨1, 0⟩] _ [] ⟨none, 0, 0, 0⟩ exF y W hI exS_fit exF_fit h.gg h.sch h.wk2 (by decide) (SlIn.nil (Nat.zero_le _) _ _ _) (by decide) (fun _ h => by cases h) hy
  rw [ex_var] at this
  exact this
end Go.Proofs.YtlfjjokcbeaekaaGreatDoor

/- The law's live: the rules. -/
namespace Go.Proofs.YtlfjjokcbeaekaaGreatDoor
open Go.RowKit Go.Chalk
theorem ex_rules {W : World} {x : SlA} {y z : FrmA} (hx : SlIn W (· < W.heap.size) (exB.map Bnd.toD) x) (hy : FrmIn W (· < W.heap.size) exF y) (hz : FrmIn W (· < W.heap.size) exF z) (hb : x.a = some ⟨x.b, x.o, none⟩ ∧ x.cap = 2) :
    SlIn (W.alloc (.cells #[.string ⟨#[104]⟩, .bool true, .int .i64 0, .slice (some ⟨x.b, x.o, none⟩) 2 2, .int .i64 12, .string ⟨#[]⟩, .int .i64 0, .slice y.t.a 0 y.t.cap, .slice y.b.a 0 y.b.cap, .slice y.l.a 2 y.l.cap,
      .string ⟨#[119]⟩, .bool false, .int .i64 5, .slice (some ⟨x.b, x.o, none⟩) 2 2, .int .i64 12, .string ⟨#[]⟩, .int .i64 0, .slice z.t.a 0 z.t.cap, .slice z.b.a 0 z.b.cap, .slice z.l.a 2 z.l.cap] 66)) (· < W.heap.size + 1) (exR.map Rul.toD) ⟨some ⟨W.heap.size, 0, none⟩, W.heap.size, 0, 2⟩ := by
  have h1 : DAt W (Fr 0 W) (Rul.toD ⟨[104], true, 0, exB, exF⟩) _ := RulIn.iff.2 ⟨⟨x, y⟩, rfl, by decide, (show I64 0 by unfold I64; omega), hx.fr, hy.fr⟩
  have h2 : DAt W (Fr 0 W) (Rul.toD ⟨[119], false, 5, exB, exF⟩) _ := RulIn.iff.2 ⟨⟨x, z⟩, rfl, by decide, (show I64 5 by unfold I64; omega), hx.fr, hz.fr⟩
  have h := (SlIn.lit' (w := W) (lo := 0) (e := 66) (Nat.zero_le _) (dcons h1 (dcons h2 dnil)) rfl (by decide)).mono (G := (· < W.heap.size + 1)) (fun k hk => by have := hk.2; simpa using this)
  simp only [RulA.cells, SlA.val, hb.1, hb.2] at h
  exact h
theorem lv_insts {w W : World} {N : Nat} {y0 y : FrmA} (hI : ItoaAt) (h : Lv1 w W N y0) (hy : FrmIn W (· < W.heap.size) exF y) : Calls Tryz.prog 19 #[.agg #[.slice (some ⟨w.heap.size, 0, none⟩) 2 2, .slice (some ⟨w.heap.size + 1, 0, none⟩) 1 1, .slice none 0 0, .slice none 0 0, .slice (some ⟨w.heap.size + 1 + 1, 0, none⟩) 2 2], .agg #[.string ⟨#[104]⟩, .bool true, .int .i64 0, .slice (some ⟨w.heap.size + 1 + 1 + 1 + 1, 0, none⟩) 2 2, .int .i64 12, .string ⟨#[]⟩, .int .i64 0, .slice y.t.a 0 y.t.cap, .slice y.b.a 0 y.b.cap, .slice y.l.a 2 y.l.cap]] W fun e w' => ∃ x0 : SlA, e = .returned (.tuple #[.slice x0.a 4 x0.cap, .int .i64 0]) ∧ Below W.heap.size W w' := by
  have := einsts_any exS (exAt w.heap.size) ⟨[104], true, 0, exB, exF⟩ ⟨⟨some ⟨w.heap.size + 1 + 1 + 1 + 1, 0, none⟩, w.heap.size + 1 + 1 + 1 + 1, 0, 2⟩, y⟩ W hI exS_fit (exR_fit _ (by simp [exR])) h.gg h.sch ⟨by decide, (show I64 0 by unfold I64; omega), h.binds, hy⟩
  rw [ex_insts _ rfl] at this
  exact this.mono (fun e w' ⟨x0, h1, _, h3⟩ => ⟨x0, h1, h3⟩)
theorem lv_broken {w W : World} {N : Nat} {y0 : FrmA} {r : SlA} (hI : ItoaAt) (h : Lv1 w W N y0) (hr : SlIn W (· < W.heap.size) (exR.map Rul.toD) r) : Calls Tryz.prog 18 #[.agg #[.slice (some ⟨w.heap.size, 0, none⟩) 2 2, .slice (some ⟨w.heap.size + 1, 0, none⟩) 1 1, .slice none 0 0, .slice none 0 0, .slice (some ⟨w.heap.size + 1 + 1, 0, none⟩) 2 2], .agg #[.slice (some ⟨N + 1 + 1 + 1, 0, none⟩) 2 2], .slice r.a 2 r.cap] W fun e w' => ∃ (b o cap qb qo qc : Nat), e = .returned (.tuple #[.slice (some ⟨b, o, none⟩) 4 cap, .int .i64 0]) ∧ (b < w'.heap.size ∧ qb < w'.heap.size ∧ w'.cell? ⟨b, o, none⟩ = some (.int .i64 0) ∧ w'.cell? ⟨b, o + 1, none⟩ = some (.slice (some ⟨qb, qo, none⟩) 2 qc) ∧ w'.cell? ⟨b, o + 12, none⟩ = some (.int .i64 1) ∧ w'.cell? ⟨qb, qo, none⟩ = some (.int .i64 0) ∧ w'.cell? ⟨qb, qo + 1, none⟩ = some (.int .i64 1)) ∧ Below W.heap.size W w' := by
  have := ebroken_any exS (exAt w.heap.size) [⟨1, 0⟩, ⟨1, 0⟩] _ exR r W hI exS_fit exR_fit h.gg h.sch h.wk2 (by decide) hr (by decide)
  rw [ex_broken] at this
  refine this.mono (fun e w' ⟨x0, h1, h2, h3⟩ => ?_)
  obtain ⟨ha, hb⟩ := h2.at_ (by simp)
  obtain ⟨q0, hq0, _, c0⟩ := h2.inst 0 (by simp)
  obtain ⟨_, _, _, c2⟩ := h2.inst 2 (by simp)
  obtain ⟨k1, _, _, _, k5⟩ := hq0.ints
  obtain ⟨hqa, hqb⟩ := k1 (by simp [nats])
  have d0 := c0.six
  have d2 := c2.six
  have e0 := k5 0 (by simp [nats])
  have e1 := k5 1 (by simp [nats])
  refine ⟨x0.b, x0.o, x0.cap, q0.b, q0.o, q0.cap, by rw [h1, ha]; rfl, ⟨hb.2, hqb.2, by simpa using d0.1, ?_, by simpa using d2.1, by simpa [nats] using e0, by simpa [nats] using e1⟩, h3⟩
  have := d0.2.1
  rw [hqa] at this
  simpa using this
theorem lv_judge {w W : World} {N : Nat} {y0 : FrmA} {r : SlA} (hI : ItoaAt) (h : Lv1 w W N y0) (hr : SlIn W (· < W.heap.size) (exR.map Rul.toD) r) : Calls Tryz.prog 17 #[.agg #[.slice (some ⟨w.heap.size, 0, none⟩) 2 2, .slice (some ⟨w.heap.size + 1, 0, none⟩) 1 1, .slice none 0 0, .slice none 0 0, .slice (some ⟨w.heap.size + 1 + 1, 0, none⟩) 2 2], .agg #[.slice (some ⟨N + 1 + 1 + 1, 0, none⟩) 2 2], .slice r.a 2 r.cap] W fun e w' => e = .returned (.tuple #[.int .i64 2, .int .i64 10, .int .i64 0]) ∧ Below W.heap.size W w' := by
  have := ejudge_any exS (exAt w.heap.size) [⟨1, 0⟩, ⟨1, 0⟩] _ exR r W hI exS_fit exR_fit h.gg h.sch h.wk2 (by decide) hr (by decide)
  rw [ex_judge] at this
  exact this
end Go.Proofs.YtlfjjokcbeaekaaGreatDoor

/- The law's live. -/
namespace Go.Proofs.YtlfjjokcbeaekaaGreatDoor
open Go.RowKit Go.Chalk

theorem Lv0.reads {w W : World} (h : Lv0 w W) :
    W.cell? ⟨w.heap.size + 1 + 1 + 1, 0, none⟩ = some (.slice (some ⟨w.heap.size, 0, none⟩) 2 2) ∧ W.cell? ⟨w.heap.size + 1 + 1 + 1, 1, none⟩ = some (.slice (some ⟨w.heap.size + 1, 0, none⟩) 1 1) ∧ W.cell? ⟨w.heap.size + 1 + 1 + 1, 2, none⟩ = some (.slice none 0 0) ∧ W.cell? ⟨w.heap.size + 1 + 1 + 1, 3, none⟩ = some (.slice none 0 0) ∧ W.cell? ⟨w.heap.size + 1 + 1 + 1, 4, none⟩ = some (.slice (some ⟨w.heap.size + 1 + 1, 0, none⟩) 2 2) ∧ w.heap.size + 1 + 1 + 1 < W.heap.size :=
  ⟨h.box.cells.1, h.box.cells.2.1, h.box.cells.2.2.1, h.box.cells.2.2.2.1, h.box.cells.2.2.2.2, h.box.lt⟩
set_option maxRecDepth 100000 in
set_option maxHeartbeats 8000000 in
theorem live_any (w : World) (hI : ItoaAt) (hg : GG w) : Calls Tryz.prog 9 #[] w fun e w' => e = .returned (.bool true) ∧ Below w.heap.size w w' := by
  have HI := Lib.hid hI
  have L0 := Lib.hid (lv0_start w hg)
  clear hI hg
  go_enter Tryz.func9, Tryz.ntmps9
  go_wp2_with fail
  refine (lexample_any _).mono ?_
  rintro e w1 ⟨y1, rfl, h1, b1⟩
  have L1 := Lib.hid (And.intro (L0.out.later b1) h1)
  clear h1 b1 L0
  go_wp2_with fail
  refine (lone_any 14 0 exB exF ⟨some ⟨w.heap.size + 1 + 1 + 1 + 1, 0, none⟩, w.heap.size + 1 + 1 + 1 + 1, 0, 2⟩ y1 w1 0 (Nat.zero_le _) (show I64 14 by unfold I64; omega) (show I64 0 by unfold I64; omega) L1.out.1.binds.fr L1.out.2.fr).mono ?_
  rintro e w2 ⟨y2, rfl, h2, b2⟩
  have L2 := Lib.hid (lv1_start w w2 y2 (L1.out.1.later b2) h2.all)
  have e2 : ndV (oneF 14 0 exB exF, y2) = .agg #[.int .i64 14, .string ⟨#[]⟩, .int .i64 0, .slice y2.t.a 0 y2.t.cap, .slice y2.b.a 2 y2.b.cap, .slice y2.l.a 1 y2.l.cap] := rfl
  rw [e2]
  obtain ⟨⟨c0, c1, c2, c3, c4⟩, d1, _, d3, d4, d5, d6, d7, d8⟩ := L2.out.reads
  clear h2 b2 L1 e2
  go_wp2_with fail
  clear c0 c1 c2 c3 c4 d1 d3 d4 d5 d6 d7 d8
  generalize ((((w2.alloc _).alloc _).alloc _).alloc _).alloc _ = w3 at L2 ⊢
  refine (lv_yes HI.out L2.out).mono ?_
  rintro e w4 ⟨rfl, b4⟩
  have L4 := Lib.hid (L2.out.later b4)
  clear b4 L2
  obtain ⟨⟨c0, c1, c2, c3, c4⟩, _, d2, d3, d4, d5, d6, d7, d8⟩ := L4.out.reads
  go_wp2_with fail
  refine (lv_no HI.out L4.out).mono ?_
  rintro e w5 ⟨rfl, b5⟩
  have L5 := Lib.hid (L4.out.later b5)
  clear b5 L4 c0 c1 c2 c3 c4 d2 d3 d4 d5 d6 d7 d8
  go_wp2_with fail
  refine (lexample_any _).mono ?_
  rintro e w6 ⟨y6, rfl, h6, b6⟩
  have L6 := Lib.hid (And.intro (L5.out.later b6) h6)
  have e6 : ndV (exF, y6) = .agg #[.int .i64 12, .string ⟨#[]⟩, .int .i64 0, .slice y6.t.a 0 y6.t.cap, .slice y6.b.a 0 y6.b.cap, .slice y6.l.a 2 y6.l.cap] := rfl
  rw [e6]
  clear h6 b6 L5 e6
  go_wp2_with fail
  refine (lexample_any _).mono ?_
  rintro e w7 ⟨y7, rfl, h7, b7⟩
  have L7 := Lib.hid (And.intro (L6.out.1.later b7) (And.intro (L6.out.2.later b7 b7.size) h7))
  have e7 : ndV (exF, y7) = .agg #[.int .i64 12, .string ⟨#[]⟩, .int .i64 0, .slice y7.t.a 0 y7.t.cap, .slice y7.b.a 0 y7.b.cap, .slice y7.l.a 2 y7.l.cap] := rfl
  rw [e7]
  clear h7 b7 L6 e7
  go_wp2_with fail
  have hru := ex_rules L7.out.1.binds L7.out.2.1 L7.out.2.2 ⟨rfl, rfl⟩
  simp only at hru
  obtain ⟨W8, hW8⟩ : ∃ W8, W8 = w7.alloc (.cells #[.string ⟨#[104]⟩, .bool true, .int .i64 0, .slice (some ⟨w.heap.size + 1 + 1 + 1 + 1, 0, none⟩) 2 2, .int .i64 12, .string ⟨#[]⟩, .int .i64 0, .slice y6.t.a 0 y6.t.cap, .slice y6.b.a 0 y6.b.cap, .slice y6.l.a 2 y6.l.cap, .string ⟨#[119]⟩, .bool false, .int .i64 5, .slice (some ⟨w.heap.size + 1 + 1 + 1 + 1, 0, none⟩) 2 2, .int .i64 12, .string ⟨#[]⟩, .int .i64 0, .slice y7.t.a 0 y7.t.cap, .slice y7.b.a 0 y7.b.cap, .slice y7.l.a 2 y7.l.cap] 66) := ⟨_, rfl⟩
  have hb8 : Below w7.heap.size w7 W8 := by rw [hW8]; exact (Below.refl _ _).alloc (Nat.le_refl _) _
  have hz8 : W8.heap.size = w7.heap.size + 1 := by rw [hW8]; simp
  have hr8 : W8.heap[w7.heap.size]? = some (.cells #[.string ⟨#[104]⟩, .bool true, .int .i64 0, .slice (some ⟨w.heap.size + 1 + 1 + 1 + 1, 0, none⟩) 2 2, .int .i64 12, .string ⟨#[]⟩, .int .i64 0, .slice y6.t.a 0 y6.t.cap, .slice y6.b.a 0 y6.b.cap, .slice y6.l.a 2 y6.l.cap, .string ⟨#[119]⟩, .bool false, .int .i64 5, .slice (some ⟨w.heap.size + 1 + 1 + 1 + 1, 0, none⟩) 2 2, .int .i64 12, .string ⟨#[]⟩, .int .i64 0, .slice y7.t.a 0 y7.t.cap, .slice y7.b.a 0 y7.b.cap, .slice y7.l.a 2 y7.l.cap] 66 (0, 0)) := by rw [hW8, heap_get, if_pos rfl]
  rw [← hW8] at hru ⊢
  rw [← hz8] at hru
  have L8 := Lib.hid (L7.out.1.later hb8)
  have Y8 := Lib.hid (L7.out.2.1.later hb8 hb8.size)
  have R8 := Lib.hid hru
  have HK : Hid (∀ w', Below W8.heap.size W8 w' → (w'.cell? ⟨w.heap.size + 1 + 1 + 1, 0, none⟩ = some (.slice (some ⟨w.heap.size, 0, none⟩) 2 2) ∧ w'.cell? ⟨w.heap.size + 1 + 1 + 1, 1, none⟩ = some (.slice (some ⟨w.heap.size + 1, 0, none⟩) 1 1) ∧ w'.cell? ⟨w.heap.size + 1 + 1 + 1, 2, none⟩ = some (.slice none 0 0) ∧ w'.cell? ⟨w.heap.size + 1 + 1 + 1, 3, none⟩ = some (.slice none 0 0) ∧ w'.cell? ⟨w.heap.size + 1 + 1 + 1, 4, none⟩ = some (.slice (some ⟨w.heap.size + 1 + 1, 0, none⟩) 2 2)) ∧ (w'.cell? ⟨w7.heap.size, 0, none⟩ = some (.string ⟨#[104]⟩) ∧ w'.cell? ⟨w7.heap.size, 1, none⟩ = some (.bool true) ∧ w'.cell? ⟨w7.heap.size, 2, none⟩ = some (.int .i64 0) ∧ w'.cell? ⟨w7.heap.size, 3, none⟩ = some (.slice (some ⟨w.heap.size + 1 + 1 + 1 + 1, 0, none⟩) 2 2) ∧ w'.cell? ⟨w7.heap.size, 4, none⟩ = some (.int .i64 12) ∧ w'.cell? ⟨w7.heap.size, 5, none⟩ = some (.string ⟨#[]⟩) ∧ w'.cell? ⟨w7.heap.size, 6, none⟩ = some (.int .i64 0) ∧ w'.cell? ⟨w7.heap.size, 7, none⟩ = some (.slice y6.t.a 0 y6.t.cap) ∧ w'.cell? ⟨w7.heap.size, 8, none⟩ = some (.slice y6.b.a 0 y6.b.cap) ∧ w'.cell? ⟨w7.heap.size, 9, none⟩ = some (.slice y6.l.a 2 y6.l.cap))) := Lib.hid (fun w' hW => by
    have h := (hW.block _ (Array.getElem?_eq_some_iff.1 hr8).1).trans hr8
    exact ⟨(L8.out.later hW).reads.1, cell_of_heap h rfl, cell_of_heap h rfl, cell_of_heap h rfl, cell_of_heap h rfl, cell_of_heap h rfl, cell_of_heap h rfl, cell_of_heap h rfl, cell_of_heap h rfl, cell_of_heap h rfl, cell_of_heap h rfl⟩)
  clear hru hW8 hb8 hz8 hr8 L7
  go_region_held3 (fun w' => (w'.cell? ⟨w.heap.size + 1 + 1 + 1, 0, none⟩ = some (.slice (some ⟨w.heap.size, 0, none⟩) 2 2) ∧ w'.cell? ⟨w.heap.size + 1 + 1 + 1, 1, none⟩ = some (.slice (some ⟨w.heap.size + 1, 0, none⟩) 1 1) ∧ w'.cell? ⟨w.heap.size + 1 + 1 + 1, 2, none⟩ = some (.slice none 0 0) ∧ w'.cell? ⟨w.heap.size + 1 + 1 + 1, 3, none⟩ = some (.slice none 0 0) ∧ w'.cell? ⟨w.heap.size + 1 + 1 + 1, 4, none⟩ = some (.slice (some ⟨w.heap.size + 1 + 1, 0, none⟩) 2 2)) ∧ (w'.cell? ⟨w7.heap.size, 0, none⟩ = some (.string ⟨#[104]⟩) ∧ w'.cell? ⟨w7.heap.size, 1, none⟩ = some (.bool true) ∧ w'.cell? ⟨w7.heap.size, 2, none⟩ = some (.int .i64 0) ∧ w'.cell? ⟨w7.heap.size, 3, none⟩ = some (.slice (some ⟨w.heap.size + 1 + 1 + 1 + 1, 0, none⟩) 2 2) ∧ w'.cell? ⟨w7.heap.size, 4, none⟩ = some (.int .i64 12) ∧ w'.cell? ⟨w7.heap.size, 5, none⟩ = some (.string ⟨#[]⟩) ∧ w'.cell? ⟨w7.heap.size, 6, none⟩ = some (.int .i64 0) ∧ w'.cell? ⟨w7.heap.size, 7, none⟩ = some (.slice y6.t.a 0 y6.t.cap) ∧ w'.cell? ⟨w7.heap.size, 8, none⟩ = some (.slice y6.b.a 0 y6.b.cap) ∧ w'.cell? ⟨w7.heap.size, 9, none⟩ = some (.slice y6.l.a 2 y6.l.cap))) ((refine HK.out _ ?_; first | exact H9.out.1 | exact (Below.refl _ _).drew | fail)) (first
    | (go_at_call 19; refine (lv_insts HI.out (L8.out.later (Below.refl _ _).drew) (Y8.out.later (Below.refl _ _).drew (Nat.le_refl _))).mono ?_; rintro e w9 ⟨x9, rfl, hbb⟩; have H9 := Lib.hid (And.intro ((Below.refl _ _).drew.trans hbb) trivial); clear hbb))
  all_goals
    have L9 := Lib.hid (And.intro (L8.out.later (H9.out.1.mono (Nat.le_refl _))) (R8.out.later (H9.out.1.mono (Nat.le_refl _)) H9.out.1.size))
    obtain ⟨⟨c0, c1, c2, c3, c4⟩, _, d2, _⟩ := L9.out.1.reads
    clear HK
    go_wp2_with fail
    refine (lv_broken HI.out L9.out.1 L9.out.2).mono ?_
    rintro e w10 ⟨b, o, cap, qb, qo, qc, rfl, hbr, b10⟩
    have L10 := Lib.hid (And.intro (L9.out.1.later b10) (L9.out.2.later b10 b10.size))
    have HBR : Hid (∀ W', Below w10.heap.size w10 W' → W'.cell? ⟨b, o, none⟩ = some (.int .i64 0) ∧ W'.cell? ⟨b, o + 1, none⟩ = some (.slice (some ⟨qb, qo, none⟩) 2 qc) ∧ W'.cell? ⟨b, o + 12, none⟩ = some (.int .i64 1) ∧ W'.cell? ⟨qb, qo, none⟩ = some (.int .i64 0) ∧ W'.cell? ⟨qb, qo + 1, none⟩ = some (.int .i64 1)) := Lib.hid (fun W' hW => ⟨(hW.cell (p := ⟨b, o, none⟩) hbr.1).trans hbr.2.2.1, (hW.cell (p := ⟨b, o + 1, none⟩) hbr.1).trans hbr.2.2.2.1, (hW.cell (p := ⟨b, o + 12, none⟩) hbr.1).trans hbr.2.2.2.2.1, (hW.cell (p := ⟨qb, qo, none⟩) hbr.2.1).trans hbr.2.2.2.2.2.1, (hW.cell (p := ⟨qb, qo + 1, none⟩) hbr.2.1).trans hbr.2.2.2.2.2.2⟩)
    clear hbr b10 L9 c0 c1 c2 c3 c4 d2
    obtain ⟨⟨c0, c1, c2, c3, c4⟩, _, d2, _⟩ := L10.out.1.reads
    go_wp2_with fail
    refine (lv_judge HI.out L10.out.1 L10.out.2).mono ?_
    rintro e w11 ⟨rfl, b11⟩
    have L11 := Lib.hid (And.intro (L10.out.1.later b11) b11)
    clear b11 c0 c1 c2 c3 c4 d2
    go_wp2_with fail
    have HK : Hid (∀ w', Below w11.heap.size w11 w' → (w'.cell? ⟨w.heap.size + 1 + 1 + 1, 0, none⟩ = some (.slice (some ⟨w.heap.size, 0, none⟩) 2 2) ∧ w'.cell? ⟨w.heap.size + 1 + 1 + 1, 1, none⟩ = some (.slice (some ⟨w.heap.size + 1, 0, none⟩) 1 1) ∧ w'.cell? ⟨w.heap.size + 1 + 1 + 1, 2, none⟩ = some (.slice none 0 0) ∧ w'.cell? ⟨w.heap.size + 1 + 1 + 1, 3, none⟩ = some (.slice none 0 0) ∧ w'.cell? ⟨w.heap.size + 1 + 1 + 1, 4, none⟩ = some (.slice (some ⟨w.heap.size + 1 + 1, 0, none⟩) 2 2)) ∧ w'.cell? ⟨w2.heap.size + 1 + 1 + 1 + 1, 0, none⟩ = some (.slice (some ⟨w2.heap.size + 1 + 1 + 1, 0, none⟩) 2 2)) := Lib.hid (fun w' hW => ⟨(L11.out.1.later hW).reads.1, (L11.out.1.later hW).reads.2.2.1⟩)
    go_region_held3 (fun w' => (w'.cell? ⟨w.heap.size + 1 + 1 + 1, 0, none⟩ = some (.slice (some ⟨w.heap.size, 0, none⟩) 2 2) ∧ w'.cell? ⟨w.heap.size + 1 + 1 + 1, 1, none⟩ = some (.slice (some ⟨w.heap.size + 1, 0, none⟩) 1 1) ∧ w'.cell? ⟨w.heap.size + 1 + 1 + 1, 2, none⟩ = some (.slice none 0 0) ∧ w'.cell? ⟨w.heap.size + 1 + 1 + 1, 3, none⟩ = some (.slice none 0 0) ∧ w'.cell? ⟨w.heap.size + 1 + 1 + 1, 4, none⟩ = some (.slice (some ⟨w.heap.size + 1 + 1, 0, none⟩) 2 2)) ∧ w'.cell? ⟨w2.heap.size + 1 + 1 + 1 + 1, 0, none⟩ = some (.slice (some ⟨w2.heap.size + 1 + 1 + 1, 0, none⟩) 2 2)) ((refine HK.out _ ?_; first | exact H13.out | exact H12.out.1 | exact (Below.refl _ _).drew | fail)) (first
      | (go_at_call 11; refine (lv_var HI.out (L11.out.1.later (H12.out.1.mono (Nat.le_refl _))) H12.out.2).mono ?_; rintro e w13 ⟨rfl, hbb⟩; have H13 := Lib.hid (H12.out.1.trans (hbb.mono H12.out.1.size)); clear hbb)
      | (go_at_call 24; refine (lexample_any _).mono ?_; rintro e w12 ⟨y12, rfl, h12, hbb⟩; have H12 := Lib.hid (And.intro ((Below.refl _ _).drew.trans hbb) h12); have e12 : ndV (exF, y12) = .agg #[.int .i64 12, .string ⟨#[]⟩, .int .i64 0, .slice y12.t.a 0 y12.t.cap, .slice y12.b.a 0 y12.b.cap, .slice y12.l.a 2 y12.l.cap] := rfl; rw [e12]; clear hbb h12 e12))
    all_goals
      have L13 := Lib.hid (L11.out.1.later (H13.out.mono (Nat.le_refl _)))
      have B13 := Lib.hid (L11.out.2.trans ((H13.out.mono (Nat.le_refl _)).mono L11.out.2.size))
      clear HK
      obtain ⟨⟨c0, c1, c2, c3, c4⟩, _, _, d3, d4, d5, d6, d7, d8⟩ := L13.out.reads
      go_wp2_with fail
      refine (lv_place HI.out L13.out).mono ?_
      rintro e w14 ⟨rfl, b14⟩
      have L14 := Lib.hid (L13.out.later b14)
      obtain ⟨r0, r1, r2, r3, r4⟩ := HBR.out w14 (B13.out.trans (b14.mono B13.out.size))
      clear b14 c0 c1 c2 c3 c4 d3 d4 d5 d6 d7 d8
      go_wp2_with fail
      go_ret
      exact ⟨rfl, L14.out.below⟩
end Go.Proofs.YtlfjjokcbeaekaaGreatDoor

/- What all six laws' walks share: the arguments in their boxes, the contracts at whatever later world. -/
namespace Go.Chalk
open Go.RowKit
theorem nodes_one {k n : Int} {binds : List Bnd} {f : Frm} : nodesF (oneF k n binds f) = oneF k n binds f :: nodesF f := by unfold oneF; rw [nodesF, nodesL, nodesL, List.append_nil]
theorem nodes_both {k : Int} {f g : Frm} : nodesF (bothF k f g) = bothF k f g :: (nodesF f ++ nodesF g) := by unfold bothF; rw [nodesF, nodesL, nodesL, nodesL, List.append_nil]
end Go.Chalk
namespace Go.Proofs.YtlfjjokcbeaekaaGreatDoor
open Go.RowKit Go.Chalk
theorem FrmFit.oneF {k n : Int} {binds : List Bnd} {f : Frm} (h : FrmFit f) (hs : f.size ≤ 1900000) (hb : binds.length ≤ 2000000) (hn : ∀ b ∈ binds, b.name.length ≤ 4000000) : FrmFit (oneF k n binds f) := by
  refine ⟨by unfold Chalk.oneF; rw [Frm.size, fsizes, fsizes]; omega, fun g hg => ?_⟩
  rw [nodes_one] at hg
  rcases List.mem_cons.1 hg with rfl | hg
  · exact ⟨by simp [Chalk.oneF, Frm.terms], by simpa [Chalk.oneF, Frm.binds] using hb, by simp [Chalk.oneF, Frm.l], by simp [Chalk.oneF, Frm.name], by simp [Chalk.oneF, Frm.terms], by simpa [Chalk.oneF, Frm.binds] using hn⟩
  · exact h.nodes g hg
theorem FrmFit.bothF {k : Int} {f g : Frm} (h : FrmFit f) (h' : FrmFit g) (hs : f.size + g.size ≤ 1900000) : FrmFit (bothF k f g) := by
  refine ⟨by unfold Chalk.bothF; rw [Frm.size, fsizes, fsizes, fsizes]; omega, fun q hq => ?_⟩
  rw [nodes_both] at hq
  rcases List.mem_cons.1 hq with rfl | hq
  · exact ⟨by simp [Chalk.bothF, Frm.terms], by simp [Chalk.bothF, Frm.binds], by simp [Chalk.bothF, Frm.l], by simp [Chalk.bothF, Frm.name], by simp [Chalk.bothF, Frm.terms], by simp [Chalk.bothF, Frm.binds]⟩
  · rcases List.mem_append.1 hq with hq | hq
    · exact h.nodes q hq
    · exact h'.nodes q hq
theorem i64_of {n : Int} (h : -1000 ≤ n ∧ n ≤ 1000) : I64 n := by unfold I64; omega
theorem WkBox.below {W W' : World} {b : Nat} {v : Value} {t : TypeId} (h : W.heap[b]? = some (.cells #[v] t (0, 0))) (hb : Below W.heap.size W W') : W'.heap[b]? = some (.cells #[v] t (0, 0)) := (hb.block _ (Array.getElem?_eq_some_iff.1 h).1).trans h
end Go.Proofs.YtlfjjokcbeaekaaGreatDoor
