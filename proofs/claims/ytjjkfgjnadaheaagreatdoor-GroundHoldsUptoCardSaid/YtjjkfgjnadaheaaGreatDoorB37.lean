/- Joined texts: GEachQ, GKids. -/
import Derived.Test.YtjjkfgjnadaheaaGreatDoorB36
import Derived.Test.YtjjkfgjnadaheaaGreatDoorB17
import Derived.Deep.AppendLies
import Derived.Test.YtjjkfgjnadaheaaGreatDoorB35

/- An element is appended as zero: the append, in a region that draws its order. No program is named here. -/
namespace Go.Chalk
open Go.RowKit
variable {P : Program}
theorem step_append_zero {W0 : World} {F : Nat -> Prop} {ops : Array Oper} {o : Oper} {a : Act} {K : Act -> World -> Prop} {Q : Exit -> Act -> World -> Prop} {E : Prop} (hgd : o.guard = none) (s x : Operand) (t : TypeId)
    (ho : o.op = .call { callee := .builtin .append, args := #[s, x], argTypes := #[t, t] }) (e : TypeId) (i : TypeInfo) (z : Value) (bytes : Nat) (ht : P.underlying t = some (.slice e)) (hi : P.info? e = some i) (hz : i.zero = some z)
    (hsize : i.size = 4) (hby : i.bytes = bytes) (hzs : z.cells.size = 4) (oa : Option Addr) (ocap n : Nat) (xs : List D) (r : Option Nat) (zb : Nat) (z0 z1 z2 z3 : Value) (tt : TypeId) (hs : a.eval s = .slice oa n ocap) (hx : a.eval x = .slice (some ⟨zb, 0, none⟩) 1 1)
    (hv : Chalk.Own W0 F e 4 (.slice oa n ocap) r xs) (hn : xs.length = n) (hzb : W0.heap[zb]? = some (.cells #[z0, z1, z2, z3] tt (0, 0))) (ho1 : ∀ u ∈ [z0, z1, z2, z3], u.oneCell' = true) (h63 : n + 1 <= maxLen) (hbytes : (n + 1) * bytes <= 140737488355328)
    (h : ∀ g cap cs w7, DsAt W0 F xs cs -> w7.ownsRow 0 e 4 (.slice (some ⟨g, 0, none⟩) (n + 1) cap) (n + 1) (cs ++ [z0, z1, z2, z3]) -> Mod (fun k => r = some k) W0 w7 -> (r = some g ∨ g = W0.heap.size) -> g < w7.heap.size -> K (a.put o.dst (.slice (some ⟨g, 0, none⟩) (n + 1) cap)) w7) :
    if Region.wanted o (yielded ops a.tmps) = true then Oper.wp P o a W0 K Q else E := by
  have hwn : Region.wanted o (yielded ops a.tmps) = true := by simp [Region.wanted, hgd]
  rw [if_pos hwn]
  subst hn
  obtain ⟨cs, k1, k2⟩ := hv.cells
  have hnews : ∀ j u, [z0, z1, z2, z3][j]? = some u -> W0.cell? ((⟨zb, 0, none⟩ : Addr).add j) = some u := fun j u hu => by
    have hc := cell_of_heap (i := j) hzb (v := u) (by simpa using hu)
    unfold Addr.add
    by_cases h0 : j = 0
    · subst h0; simpa using hc
    · rw [if_neg h0]; simpa using hc
  refine wp_append_lies W0 s x t ho 0 e i z 4 bytes ht hi hz hsize hby hzs (by decide) (.slice oa xs.length ocap) xs.length cs hs k1 ⟨zb, 0, none⟩ 1 1 [z0, z1, z2, z3] hx rfl hnews ho1 (by omega) h63 hbytes (Nat.zero_le _) _ rfl (fun g cap w' hown hgr hat hlt => ?_)
  exact h g cap cs w' k2 hown (Mod.of_grown hgr (fun k hk => by rw [<- hv.row]; exact hk)) (by rw [<- hv.row]; exact hat) hlt
theorem each_end {W wc w7 wf : World} {T1 T' : Nat -> Prop} {mb H g cap n : Nat} {oa : Option Addr} {ocap : Nat} {r : Option Nat} {xs : List D} {cs : List Value} {z0 z1 z2 z3 c0 c1 c2 c3 v0 : Value} {t : D} {te tt : TypeId} (hTT : ∀ k, T1 k ↔ T' k ∨ k = mb) (hmbH : mb < H)
    (b1 : W.heap[H]? = some (.cells #[v0] tt (0, 0))) (b2 : T' H) (b3 : ∀ k, r = some k -> T' k /\ k ≠ H) (b4 : ∀ k, T' k -> H <= k /\ k < W.heap.size) (b5 : Chalk.Own W (fun k => T' k /\ k ≠ H /\ r ≠ some k) te 4 (.slice oa n ocap) r xs)
    (hcs : DsAt wc (fun k => T' k /\ k ≠ H /\ r ≠ some k) xs cs) (hm : Mod (fun k => k = mb) W wc) (ht : DAt wc (fun k => W.heap.size <= k /\ k < wc.heap.size) t [c0, c1, c2, c3])
    (hown : w7.ownsRow 0 te 4 (.slice (some ⟨g, 0, none⟩) (n + 1) cap) (n + 1) (cs ++ [z0, z1, z2, z3])) (hm7 : Mod (fun k => r = some k) wc w7) (hg : r = some g ∨ g = wc.heap.size) (hg7 : g < w7.heap.size) (hxn : xs.length = n)
    (hwf : wf = (put4 w7 g (n * 4) c0 c1 c2 c3).setCell ⟨H, 0, none⟩ (.slice (some ⟨g, 0, none⟩) (n + 1) cap) ∨ wf = put4 (w7.setCell ⟨H, 0, none⟩ (.slice (some ⟨g, 0, none⟩) (n + 1) cap)) g (n * 4) c0 c1 c2 c3) :
    (∃ T2, Ext T1 T2 W wf /\ Mod T1 W wf /\ BoxMb wf mb H tt te (xs ++ [t]) T2) /\ wf.heap[mb]? = wc.heap[mb]? := by
  have z1' := hm.size
  have hH := b4 H b2
  have hgH : g ≠ H := by
    rcases hg with h | h
    · exact (b3 g h).2
    · omega
  have hrmb : ¬ r = some mb := fun h => by have := (b4 mb (b3 mb h).1).1; omega
  have hgmb : g ≠ mb := by
    rcases hg with h | h
    · rintro rfl; exact hrmb h
    · omega
  have hbc : wc.heap[H]? = some (.cells #[v0] tt (0, 0)) := heap_kept b1 hm (by omega)
  have hb7 : w7.heap[H]? = some (.cells #[v0] tt (0, 0)) := heap_kept hbc hm7 (fun h => (b3 H h).2 rfl)
  have hcW : DsAt W (fun k => T' k /\ k ≠ H /\ r ≠ some k) xs cs := DsAt.agree (fun k hk => (hm.block k (b4 k hk.1).2 (by have := (b4 k hk.1).1; omega)).symm) _ _ hcs
  have hmS : ∀ w : World, Mod (fun k => k = H) w (w.setCell ⟨H, 0, none⟩ (.slice (some ⟨g, 0, none⟩) (n + 1) cap)) := fun w => (Mod.refl (fun k => k = H) w).setCell (p := ⟨H, 0, none⟩) (fun _ => rfl) _
  have fin : wf.ownsRow 0 te 4 (.slice (some ⟨g, 0, none⟩) (n + 1) cap) (n + 1) (cs ++ [c0, c1, c2, c3]) /\ wf.heap[H]? = some (.cells #[.slice (some ⟨g, 0, none⟩) (n + 1) cap] tt (0, 0)) /\ Mod (fun k => k = g ∨ k = H) w7 wf := by
    rcases hwf with rfl | rfl
    · refine ⟨row_kept (row_set4 hown c0 c1 c2 c3) (hmS _) hgH, ?_, ((put4_mod w7 g (n * 4) c0 c1 c2 c3).mono (fun _ h => .inl h)).trans (hmS _) (fun _ _ h => .inr h)⟩
      have h := box_store (i := 0) (.slice (some ⟨g, 0, none⟩) (n + 1) cap) (heap_kept hb7 (put4_mod w7 g (n * 4) c0 c1 c2 c3) (fun h => hgH h.symm))
      exact h
    · refine ⟨row_set4 (row_kept hown (hmS _) hgH) c0 c1 c2 c3, ?_, ((hmS _).mono (fun _ h => .inr h)).trans (put4_mod _ g (n * 4) c0 c1 c2 c3) (fun _ _ h => .inl h)⟩
      have h := box_store (i := 0) (.slice (some ⟨g, 0, none⟩) (n + 1) cap) hb7
      exact heap_kept h (put4_mod _ g (n * 4) c0 c1 c2 c3) (fun h => hgH h.symm)
  refine ⟨each_fin hTT hmbH b2 b3 b4 b5 hcW hm ht hm7 hg hg7 fin.1 hxn fin.2.1 fin.2.2, ?_⟩
  rw [fin.2.2.block mb (by have := hm7.size; omega) (by omega), hm7.block mb (by omega) hrmb]
end Go.Chalk
/- ground's trees: the list of the parts as it grows; a node. No program is named here. -/
namespace Go.Chalk
open Go.RowKit
def KidsAt (W : World) (B : Nat) (e : TypeId) (v : Value) (ts : List Tr) : Prop := ∃ F, OwnN W B F e 4 v (ts.map Tr.toD) /\ ∀ k, F k -> B <= k
theorem Tr.widths : ∀ ts : List Tr, Chalk.widths (ts.map Tr.toD) = ts.length * 4
  | [] => rfl
  | t :: r => by
    have := Tr.widths r
    have h := Tr.width t
    simp only [List.map_cons, Chalk.widths, List.length_cons, this, h]; omega
theorem KidsAt.nil (W : World) (B : Nat) (e : TypeId) : KidsAt W B e (.slice none 0 0) [] := ⟨fun _ => False, OwnN.nil _ _ _ _ _ (fun _ h => h.elim), fun _ h => h.elim⟩
theorem KidsAt.form {W : World} {B : Nat} {e : TypeId} {v : Value} {ts : List Tr} (h : KidsAt W B e v ts) : ∃ a cap, v = .slice a ts.length cap := by
  obtain ⟨F, h1, _⟩ := h
  obtain ⟨a, cap, e⟩ := h1.form
  exact ⟨a, cap, by rw [e, List.length_map]⟩
theorem KidsAt.sl {W : World} {B : Nat} {e : TypeId} {v : Value} {ts : List Tr} (h : KidsAt W B e v ts) : ∃ u : SlA, v = u.val ts.length /\ SlIn W (fun k => B <= k /\ k < W.heap.size) (ts.map Tr.toD) u := by
  obtain ⟨F, ⟨r, h1, h2⟩, h3⟩ := h
  have h4 := h1.read (G := fun k => B <= k /\ k < W.heap.size) (fun k hk => ⟨h3 k hk, h1.lt k hk⟩) (fun k hk => ⟨h2 k hk, h1.row_lt hk⟩) (by rw [Tr.widths, List.length_map])
  obtain ⟨u, hu, hs⟩ := DAt.sl_iff.1 h4
  simp only [List.cons.injEq, and_true] at hu
  exact ⟨u, by rw [hu, List.length_map], hs⟩
theorem KidsAt.call {Wc W0 : World} {B mb : Nat} {e : TypeId} {v : Value} {ts : List Tr} {t : D} {cs : List Value} (h : KidsAt Wc B e v ts) (hm : Mod (fun k => k = mb) Wc W0) (hmb : mb < B) (hB : B <= Wc.heap.size) (ht : DAt W0 (fun k => Wc.heap.size <= k /\ k < W0.heap.size) t cs) :
    ∃ F, OwnN W0 B F e 4 v (ts.map Tr.toD) /\ DsAt W0 F [t] cs /\ ∀ k, F k -> B <= k := by
  obtain ⟨F, ⟨r, h1, h2⟩, h3⟩ := h
  have hz := hm.size
  refine ⟨fun k => F k ∨ (Wc.heap.size <= k /\ k < W0.heap.size), ⟨r, (h1.kept hm (fun k hk e => by have := h3 k hk; omega) (fun k hk e => by have := h2 k hk; omega)).widen (fun _ => .inl) (fun k hk hk' => ?_) (fun k hk => ?_), h2⟩, ?_, fun k hk => ?_⟩
  · rcases hk' with h | h
    · exact h1.off k hk h
    · have := h1.row_lt hk; omega
  · rcases hk with h | h
    · have := h1.lt k h; omega
    · exact h.2
  · rw [DsAt]
    exact ⟨cs, [], (List.append_nil _).symm, DAt.mono (fun k hk => .inr hk) _ _ ht, by rw [DsAt]⟩
  · rcases hk with h | h
    · exact h3 k h
    · omega
theorem KidsAt.of {W : World} {B : Nat} {F : Nat -> Prop} {e : TypeId} {v : Value} {ts : List Tr} {t : Tr} (h : OwnN W B F e 4 v (ts.map Tr.toD ++ [t.toD])) (hF : ∀ k, F k -> B <= k) : KidsAt W B e v (ts ++ [t]) := ⟨F, by rw [List.map_append]; exact h, hF⟩
theorem KidsAt.kept {W W' : World} {B mb : Nat} {e : TypeId} {v : Value} {ts : List Tr} (h : KidsAt W B e v ts) (hm : Mod (fun k => k = mb) W W') (hmb : mb < B) : KidsAt W' B e v ts := by
  obtain ⟨F, ⟨r, h1, h2⟩, h3⟩ := h
  exact ⟨F, ⟨r, h1.kept hm (fun k hk e => by have := h3 k hk; omega) (fun k hk e => by have := h2 k hk; omega), h2⟩, h3⟩
theorem Tr.close {W : World} {F : Nat -> Prop} {kind v k : Int} {ts : List Tr} {u : SlA} (h1 : I64 kind) (h2 : I64 v) (h3 : I64 k) (h : SlIn W F (ts.map Tr.toD) u) : DAt W F (Tr.mk kind v k ts).toD [.int .i64 kind, .int .i64 v, .int .i64 k, .slice u.a ts.length u.cap] := by
  have hi : ∀ n : Int, I64 n -> DAt W F (.int .i64 n) [.int .i64 n] := fun n hn => by rw [DAt]; exact ⟨rfl, hn.wf⟩
  rw [Tr.toD, DAt, DsAt]
  refine ⟨[_], _, rfl, hi _ h1, ?_⟩
  rw [DsAt]
  refine ⟨[_], _, rfl, hi _ h2, ?_⟩
  rw [DsAt]
  refine ⟨[_], _, rfl, hi _ h3, ?_⟩
  rw [DsAt]
  refine ⟨[_], [], rfl, DAt.sl_iff.2 ⟨u, ?_, by rw [Tr.toDs_eq]; exact h⟩, by rw [DsAt]⟩
  rw [Tr.toDs_eq, List.length_map]
theorem SlIn.tre {W : World} {F : Nat -> Prop} {ts : List Tr} {u : SlA} (h : SlIn W F (ts.map Tr.toD) u) (i : Nat) (hi : i < ts.length) :
    ∃ k0 k1 k2 a n cap, CellsAt W u.b (u.o + i * 4) [.int .i64 k0, .int .i64 k1, .int .i64 k2, .slice a n cap] /\ DAt W F (ts[i]).toD [.int .i64 k0, .int .i64 k1, .int .i64 k2, .slice a n cap] := by
  obtain ⟨cs, h1, h2⟩ := h.row.get (sz := 4) (fun d hd => by obtain ⟨t, _, rfl⟩ := List.mem_map.1 hd; exact t.width) i (by simpa using hi)
  rw [List.getElem_map] at h1
  have hl := DAt.length _ _ h1
  rw [Tr.width] at hl
  match cs, hl with
  | [c0, c1, c2, c3], _ =>
    obtain ⟨k0, k1, k2, a, n, cap, rfl, rfl, rfl, rfl⟩ := TreeV.shape h1
    exact ⟨k0, k1, k2, a, n, cap, h2, h1⟩
end Go.Chalk
