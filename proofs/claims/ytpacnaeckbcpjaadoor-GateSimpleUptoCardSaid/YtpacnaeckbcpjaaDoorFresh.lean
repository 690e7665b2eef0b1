/- gate's (*maker).fresh. -/
import Derived.Test.YtpacnaeckbcpjaaDoorPut
import Derived.Laws.OwnMore
namespace Go.Chalk
open Go.RowKit
/-- A store into an own slice of ints. -/
theorem Own.int_set {w : World} {F : Nat → Prop} {e : TypeId} {g n cap : Nat} {xs : List Int} (h : Own w F e 1 (.slice (some ⟨g, 0, none⟩) n cap) (some g) (dints xs)) (hn : n = xs.length) (i : Nat) (hi : i < xs.length) (y : Int) (hy : -9223372036854775808 ≤ y ∧ y ≤ 9223372036854775807) :
    w.cell? ⟨g, i, none⟩ = some (.int .i64 xs[i]) ∧ w.frozen? ⟨g, i, none⟩ = false ∧ Own (w.setCell ⟨g, i, none⟩ (.int .i64 y)) F e 1 (.slice (some ⟨g, 0, none⟩) n cap) (some g) (dints (xs.set i y)) := by
  subst hn
  obtain ⟨h1, h2⟩ := h.int_cells
  refine ⟨?_, h1.frozenAt i, ⟨(xs.set i y).map (Value.int .i64), ?_, DsAt.ints (fun z hz => ?_)⟩, rfl, h.off, fun k hk => by have := h.lt k hk; simpa [World.setCell] using this⟩
  · rw [h1.cellAt i (by omega)]; simp [hi]
  · have := (h1.stored i (.int .i64 y)).1
    simpa [List.map_set] using this
  · rcases List.mem_or_eq_of_mem_set hz with hz | rfl
    · exact h2 z hz
    · exact hy
end Go.Chalk
namespace Go.Proofs.YtpacnaeckbcpjaaDoor
open Go.RowKit Go.Chalk

set_option maxRecDepth 100000 in
set_option maxHeartbeats 400000 in
theorem clone_ne (ls : List Int) (vL : Value) (F : Nat → Prop) (w : World) (hd : DAt w F (.sl (dints ls)) [vL]) (hn : 0 < ls.length) (hlen : ls.length ≤ 1000000) (hF : ∀ k, F k → k < w.heap.size) :
    Calls Tryd.prog 45 #[vL] w fun e w' => ∃ g cap, e = .returned (.slice (some ⟨g, 0, none⟩) ls.length cap) ∧ Own w' (fun _ => False) 3 1 (.slice (some ⟨g, 0, none⟩) ls.length cap) (some g) (dints ls) ∧ w.heap.size ≤ g ∧ Below w.heap.size w w' := by
  obtain ⟨i0, hi, hz0, hz1, hz2⟩ := info_parts sums_info
  obtain ⟨b, o, cap, cs, rfl, h1, h2, h3, h4⟩ := hd.source (by simpa using hn)
  obtain ⟨rfl, hwf⟩ := DsAt.ints_inv h1
  have hO : Own (w.alloc (.cells #[] 3)) (fun _ => False) 3 1 (.slice (some ⟨w.heap.size, 0, none⟩) 0 0) (some w.heap.size) (dints []) := Own.lit (xs := dints []) (cs := []) rfl (by decide) rfl (by rw [dints, List.map_nil, DsAt]) (fun _ h => h.elim)
  have HO := Lib.hid hO
  have H2 := Lib.hid h2
  have HBL := Lib.hid (hF b h4)
  have HW := Lib.hid hwf
  have H3 := Lib.hid h3
  simp only [dints_length]
  have hadd : ∀ j, ((⟨b, o, none⟩ : Addr).add j).block = b := fun j => by unfold Addr.add; split <;> rfl
  have hnw : ∀ j u, (ls.map (Value.int .i64))[j]? = some u → (w.alloc (.cells #[] 3)).cell? ((⟨b, o, none⟩ : Addr).add j) = some u := fun j u hu => (((Below.refl w.heap.size w).alloc (Nat.le_refl _) _).cell (by rw [hadd]; exact HBL.out)).trans (h2 j u hu)
  have HNW := Lib.hid hnw
  clear hO h2 h1 hwf hd h3 hnw hadd
  have heq := Lib.run_eql_slice_nil (P := Tryd.prog) w 40 3 (some ⟨b, o, none⟩) ls.length cap 0 0 Tryd.underlying40
  go_enter Tryd.func45, Tryd.ntmps45
  go_wp2_with (at_builtin; go_must (refine wpList_append_lies _ rfl _ _ _ rfl 0 3 i0 _ 1 8 Tryd.underlying40 hi hz0 hz1 hz2 rfl (by omega) (.slice (some ⟨w.heap.size, 0, none⟩) 0 0) 0 [] rfl HO.out.int_cells.1 ⟨b, o, none⟩ ls.length cap (ls.map (Value.int .i64)) rfl (by simp) HNW.out H3.out hn (by unfold maxLen; omega) (by omega) (Nat.zero_le _) (w.heap.size + 1) (by simp) ?_); intro g cp wz hown hgrow hat hglt)
  go_ret
  obtain ⟨g1, g2, g3⟩ := HO.out.int_appended (ys := ls) HW.out (by simpa using hown) hgrow (by rcases hat with h | h; exact .inl h.symm; exact .inr (by rw [h]; simp [Value.ownBlock]))
  have hg : w.heap.size ≤ g := by
    rcases hat with h | h
    · simp [Value.ownBlock] at h; omega
    · omega
  refine ⟨g, cp, by simp, by simpa [Value.ownBlock] using g1, hg, ((Below.refl _ _).alloc (Nat.le_refl _) _).trans (g2.below (by simp) (fun k hk => by simp at hk; omega))⟩

/-- One encoding behind another. -/
theorem LitPost.next {w w1 w1' w2 : World} {G G' : Nat → Prop} {mb : Nat} {tm tl : TypeId} {ex : List Value} {ls new new2 : List Lin} {r r' : Option Nat} {x y : Value} {nx2 : Int} {e : Ending} (hmod : Mod (fun k => k = mb ∨ r = some k) w w1) (hf : r' = r ∨ ∃ k, r' = some k ∧ w.heap.size ≤ k) (hb : Below w1.heap.size w1 w1')
    (h2 : LitPost w1' G' mb tm tl ex (ls ++ new) r' x new2 nx2 e w2) (hG : ∀ k, G' k → G k ∨ (w.heap.size ≤ k ∧ k < w2.heap.size)) (hG2 : ∀ k, G k → k < w.heap.size) : LitPost w G mb tm tl ex ls r y (new ++ new2) nx2 (.returned y) w2 := by
  obtain ⟨_, v'', r'', m2, f2, md2⟩ := h2
  have s1 := hmod.size
  have s2 := hb.size
  have s3 := md2.size
  refine ⟨rfl, v'', r'', ?_, ?_, ?_⟩
  · rw [← List.append_assoc]
    refine m2.mono (fun k hk => ?_) (fun k hk => ?_)
    · rcases hk with h | h
      · exact hG k h
      · exact .inr ⟨by omega, h.2⟩
    · rcases hk with h | h
      · have := hG2 k h; omega
      · exact h.2
  · rcases f2 with h | ⟨k, h, hk⟩
    · rw [h]; exact hf
    · exact .inr ⟨k, h, by omega⟩
  · refine (hmod.trans (Mod.of_below (S := fun _ => False) hb) (fun _ _ h => h.elim)).trans md2 (fun i hi h => ?_)
    rcases h with h | h
    · exact .inl h
    · rcases hf with f | ⟨k, f, hk⟩
      · exact .inr (f ▸ h)
      · rw [f] at h; simp at h; omega

/-- The panic of the builder. -/
def Stops (S : Nat → Prop) (w : World) (e : Ending) (w' : World) : Prop := e = .panicked [{ v := .iface 57 (.agg #[.int .i64 2]), recovered := false }] ∧ Mod S w w'

set_option maxRecDepth 100000 in
set_option maxHeartbeats 400000 in
theorem fresh_stop (mb : Nat) (k nx : Int) (lins : List Lin) (r : Option Nat) (ex : List Value) (v : Value) (a : Option Addr) (n cap : Nat) (G : Nat → Prop) (w : World) (M : MkAt w G mb 55 42 ex v nx lins r) (hnx : 65536 < nx) (hnx2 : nx ≤ 9223372036854775807) (S : Nat → Prop) :
    Calls Tryd.prog 39 #[.pointer (some ⟨mb, 0, none⟩), .int .i64 k, .slice a n cap] w (Stops S w) := by
  obtain ⟨p0, p1, p2, p3⟩ := M.cells
  clear M
  go_enter Tryd.func39, Tryd.ntmps39
  go_wp2_with fail
  exact ⟨rfl, rfl, Mod.refl _ _⟩

/-- Where the literals lie: not in what the builder writes. -/
def Apart (w : World) (mb : Nat) (r : Option Nat) (k : Nat) : Prop := k < w.heap.size ∧ k ≠ mb ∧ r ≠ some k

set_option maxRecDepth 100000 in
set_option maxHeartbeats 400000 in
theorem fresh_low (mb : Nat) (k nx : Int) (ls : List Int) (lins : List Lin) (r : Option Nat) (ex : List Value) (v vL : Value) (G : Nat → Prop) (w : World) (M : MkAt w G mb 55 42 ex v nx lins r) (hlins : lins.length ≤ 4000000) (hnx1 : 1 ≤ nx) (hnx : nx ≤ 65536)
    (hd : DAt w (Apart w mb r) (.sl (dints ls)) [vL]) (hk : k ≤ 0 ∨ (0 < k ∧ (ls.length : Int) < k)) (hk2 : -1000000000000000000 ≤ k ∧ k ≤ 1000000000000000000) (hlen : ls.length ≤ 1000000) :
    Calls Tryd.prog 39 #[.pointer (some ⟨mb, 0, none⟩), .int .i64 k, vL] w (LitPost w G mb 55 42 ex lins r (.int .i64 nx) (sumsF nx k ls) (nx + 1)) := by
  obtain ⟨a, b, o, cap, he, _⟩ := hd.open_ints
  simp only [List.cons.injEq, and_true] at he
  subst he
  obtain ⟨p0, p1, p2, p3⟩ := M.cells
  have M1 := M.count (nx + 1)
  have hW : Mod (fun k => k = mb ∨ r = some k) w (w.setCell ⟨mb, 1, none⟩ (.int .i64 (nx + 1))) := (Mod.refl _ w).setCell (p := ⟨mb, 1, none⟩) (fun _ => .inl rfl) _
  have HG : Hid (∀ k, G k → k < w.heap.size) := M.inn
  have HM1 := Lib.hid M1
  have HW := Lib.hid hW
  have hnil : DAt (w.setCell ⟨mb, 1, none⟩ (.int .i64 (nx + 1))) (· < (w.setCell ⟨mb, 1, none⟩ (.int .i64 (nx + 1))).heap.size) (.sl (dints [])) [.slice none 0 0] := DAt.slice (xs := []) (b := 0) (o := 0) (a := none) (fun h => by simp at h) (Nat.le_refl _) (Nat.zero_le _) (by rw [RowAt]; trivial)
  have HNIL := Lib.hid hnil
  clear hnil M M1 hW hd
  rcases hk with hk | ⟨hk, hkn⟩
  · have hs : sumsF nx k ls = [⟨[1], [nx], 1⟩] := by unfold sumsF; rw [if_pos hk]
    rw [hs]
    clear hs
    go_enter Tryd.func39, Tryd.ntmps39
    go_wp2_with fail
    refine (put_any mb nx 1 1 (nx + 1) [] lins r ex v _ G _ hlins HM1.out (by omega) (by omega) (by omega) (by simp) HNIL.out).mono ?_
    rintro e w1 ⟨rfl, v1, r1, hM, hf, hmd⟩
    have HF := Lib.hid (And.intro hM (And.intro hf hmd))
    clear hM hf hmd
    go_wp2_with fail
    go_ret
    exact LitPost.next (x := .tuple #[]) (e := .returned (.tuple #[])) (new := []) HW.out (.inl rfl) (Below.refl _ _) (by rw [List.append_nil]; exact ⟨rfl, v1, r1, HF.out⟩) (fun k hk => .inl hk) HG.out
  · have hs : sumsF nx k ls = [⟨[1], [-nx], 1⟩] := by unfold sumsF; rw [if_neg (by omega), if_pos hkn]
    rw [hs]
    clear hs
    go_enter Tryd.func39, Tryd.ntmps39
    go_wp2_with fail
    refine (put_any mb (-nx) 1 1 (nx + 1) [] lins r ex v _ G _ hlins HM1.out (by omega) (by omega) (by omega) (by simp) HNIL.out).mono ?_
    rintro e w1 ⟨rfl, v1, r1, hM, hf, hmd⟩
    have HF := Lib.hid (And.intro hM (And.intro hf hmd))
    clear hM hf hmd
    go_wp2_with fail
    go_ret
    exact LitPost.next (x := .tuple #[]) (e := .returned (.tuple #[])) (new := []) HW.out (.inl rfl) (Below.refl _ _) (by rw [List.append_nil]; exact ⟨rfl, v1, r1, HF.out⟩) (fun k hk => .inl hk) HG.out

def negs (ls : List Int) (j : Nat) : List Int := (ls.take j).map (- ·) ++ ls.drop j
theorem negs_length (ls : List Int) (j : Nat) (h : j ≤ ls.length) : (negs ls j).length = ls.length := by simp [negs]; omega
theorem negs_at (ls : List Int) (j : Nat) (h : j < ls.length) : (negs ls j)[j]'(by rw [negs_length ls j (by omega)]; exact h) = ls[j] := by
  unfold negs
  rw [List.getElem_append_right (by simp; omega)]
  simp [Nat.min_eq_left (Nat.le_of_lt h)]
theorem negs_step (ls : List Int) (j : Nat) (h : j < ls.length) : (negs ls j).set j (-ls[j]) = negs ls (j + 1) := by
  unfold negs
  rw [List.take_succ_eq_append_getElem h, List.map_append, List.set_append_right _ _ (by simp; omega)]
  simp only [List.length_map, List.length_take, Nat.min_eq_left (Nat.le_of_lt h), Nat.sub_self, List.map_cons, List.map_nil]
  have e : ls.drop j = ls[j] :: ls.drop (j + 1) := List.drop_eq_getElem_cons h
  rw [e, List.set_cons_zero, List.append_assoc, List.singleton_append]
theorem negs_all (ls : List Int) : negs ls ls.length = ls.map (- ·) := by simp [negs]
theorem negs_zero (ls : List Int) : negs ls 0 = ls := by simp [negs]

set_option maxRecDepth 100000 in
set_option maxHeartbeats 1000000 in
theorem fresh_mid (mb : Nat) (k nx : Int) (ls : List Int) (lins : List Lin) (r : Option Nat) (ex : List Value) (v vL : Value) (G : Nat → Prop) (w : World) (M : MkAt w G mb 55 42 ex v nx lins r) (hlins : lins.length ≤ 3999999) (hnx1 : 1 ≤ nx) (hnx : nx ≤ 65536)
    (hd : DAt w (Apart w mb r) (.sl (dints ls)) [vL]) (hk : 0 < k) (hkn : k ≤ (ls.length : Int)) (hlen : ls.length ≤ 1000000) (hls : ∀ y ∈ ls, -1000000000000000000 ≤ y ∧ y ≤ 1000000000000000000) :
    Calls Tryd.prog 39 #[.pointer (some ⟨mb, 0, none⟩), .int .i64 k, vL] w (LitPost w G mb 55 42 ex lins r (.int .i64 nx) (sumsF nx k ls) (nx + 1)) := by
  have HD := Lib.hid hd
  obtain ⟨a, b, o, cap, he, _⟩ := hd.open_ints
  simp only [List.cons.injEq, and_true] at he
  subst he
  obtain ⟨p0, p1, p2, p3⟩ := M.cells
  have M1 := M.count (nx + 1)
  have hW : Mod (fun k => k = mb ∨ r = some k) w (w.setCell ⟨mb, 1, none⟩ (.int .i64 (nx + 1))) := (Mod.refl _ w).setCell (p := ⟨mb, 1, none⟩) (fun _ => .inl rfl) _
  have HG : Hid (∀ k, G k → k < w.heap.size) := M.inn
  have HMB : Hid (mb < w.heap.size) := M.lt
  have HM1 := Lib.hid M1
  have HW := Lib.hid hW
  have HLS := Lib.hid hls
  have hD1 : DAt (w.setCell ⟨mb, 1, none⟩ (.int .i64 (nx + 1))) (Apart w mb r) (.sl (dints ls)) [.slice a ls.length cap] := DAt.agree (hW.agree (fun k hk => ⟨hk.1, fun h => by rcases h with h | h; exact hk.2.1 h; exact hk.2.2 h⟩)) _ _ hd
  have HD1 := Lib.hid hD1
  have HSW : Hid ((w.setCell ⟨mb, 1, none⟩ (.int .i64 (nx + 1))).heap.size = w.heap.size) := by show _ = _; simp [World.setCell]
  clear M M1 hW hd hls hD1
  have hs : sumsF nx k ls = [⟨k :: ls.map (fun _ => 1), -nx :: ls, k⟩] ++ [⟨((ls.length : Int) - k + 1) :: (ls.map (- ·)).map (fun _ => 1), nx :: ls.map (- ·), (ls.length : Int) - k + 1⟩] := by
    unfold sumsF; rw [if_neg (by omega), if_neg (by omega)]; simp
  rw [hs]
  clear hs
  go_enter Tryd.func39, Tryd.ntmps39
  go_wp2_with fail
  refine (put_any mb (-nx) k k (nx + 1) ls lins r ex v _ G _ (by omega) HM1.out (by omega) (by omega) (by omega) hlen (DAt.mono (fun k hk => by rw [HSW.out]; exact hk.1) _ _ HD1.out)).mono ?_
  rintro e w1 ⟨rfl, v1, r1, hM, hf, hmd⟩
  have hD2 : DAt w1 (Apart w mb r) (.sl (dints ls)) [.slice a ls.length cap] := DAt.agree (hmd.agree (fun k hk => ⟨by rw [HSW.out]; exact hk.1, fun h => by rcases h with h | h; exact hk.2.1 h; exact hk.2.2 h⟩)) _ _ HD1.out
  have hs1 : w.heap.size ≤ w1.heap.size := by have := hmd.size; rw [HSW.out] at this; exact this
  have HD2 := Lib.hid hD2
  have HMP := Lib.hid (And.intro hM (And.intro hf hmd))
  clear hD2 hM hf hmd
  go_wp2_with fail
  refine (clone_ne ls _ _ _ HD2.out (by omega) hlen (fun k hk => Nat.lt_of_lt_of_le hk.1 hs1)).mono ?_
  rintro e w2 ⟨g, gcap, rfl, hO, hg, hb2⟩
  have HO := Lib.hid hO
  have HB2 := Lib.hid hb2
  clear hO hb2
  go_wp2_with fail
  go_loopw [46, 10] (fun i _ wr => ∃ (j : Nat), i = .int .i64 j ∧ j ≤ ls.length ∧ Own wr (fun _ => False) 3 1 (.slice (some ⟨g, 0, none⟩) ls.length gcap) (some g) (dints (negs ls j)) ∧ Below w1.heap.size w1 wr) (fun i _ _ => ls.length - (intOf i).toNat)
  case atStart => exact ⟨0, rfl, Nat.zero_le _, by rw [negs_zero]; exact HO.out, HB2.out⟩
  case round =>
    obtain ⟨j, rfl, hj, hO, hb⟩ := hrel
    by_cases hlt : j < ls.length
    · have hy := HLS.out ls[j] (List.getElem_mem hlt)
      obtain ⟨c1, c2, c3⟩ := hO.int_set (negs_length ls j hj).symm j (by rw [negs_length ls j hj]; exact hlt) (-ls[j]) (by omega)
      rw [negs_at ls j hlt] at c1
      rw [negs_step ls j hlt] at c3
      have hbn : Below w1.heap.size w1 (wr.setCell ⟨g, j, none⟩ (.int .i64 (-ls[j]))) := hb.trans (((Mod.refl (fun k => k = g) wr).setCell (p := ⟨g, j, none⟩) (fun _ => rfl) _).below hb.size (fun k hk => by omega))
      have HC3 := Lib.hid c3
      have HBN := Lib.hid hbn
      generalize hyj : ls[j] = y at *
      clear hyj c3 hbn hO hb
      go_wp2_with fail
      go_roundw
      case rel => exact ⟨j + 1, by go_num, by omega, HC3.out, HBN.out⟩
      case measure => simp [intOf]; omega
    · obtain rfl : j = ls.length := by omega
      rw [negs_all] at hO
      have hsz := hb.size
      have HO2 := Lib.hid hO
      have HB := Lib.hid hb
      clear hO hb
      have HMW := Lib.hid (HMP.out.1.below HB.out)
      have HDN : Hid (DAt wr (· < wr.heap.size) (.sl (dints (ls.map (- ·)))) [.slice (some ⟨g, 0, none⟩) ls.length gcap]) := HO2.out.read (G := (· < wr.heap.size)) (fun _ h => h.elim) (fun k hk => HO2.out.row_lt hk) (by rw [dints_widths]; simp)
      go_wp2_with fail
      refine (put_any mb nx (↑ls.length - k + 1) (↑ls.length - k + 1) (nx + 1) (ls.map (- ·)) _ r1 ex v1 _ _ _ (by simp; omega) HMW.out (by omega) (by omega) (by omega) (by simpa using hlen) HDN.out).mono ?_
      intro e w3 hp
      have HP := Lib.hid hp
      obtain ⟨rfl, _⟩ := hp
      go_wp2_with fail
      go_ret
      obtain ⟨h1, h2, h3⟩ := HMP.out
      have hm3 : w.heap.size ≤ w3.heap.size := by obtain ⟨_, _, _, _, _, m⟩ := HP.out; have := m.size; omega
      have hm4 : w1.heap.size ≤ w3.heap.size := by obtain ⟨_, _, _, _, _, m⟩ := HP.out; have := m.size; omega
      exact LitPost.next (x := .tuple #[]) (e := .returned (.tuple #[])) (HW.out.trans h3 (fun _ _ h => h)) (by rw [HSW.out] at h2; exact h2) HB.out HP.out (fun k hk => by rcases hk with h | h; exact .inl h; rw [HSW.out] at h; exact .inr ⟨h.1, by omega⟩) HG.out

theorem fresh_ok (mb : Nat) (k nx : Int) (ls : List Int) (lins : List Lin) (r : Option Nat) (ex : List Value) (v vL : Value) (G : Nat → Prop) (w : World) (M : MkAt w G mb 55 42 ex v nx lins r) (hlins : lins.length ≤ 3999999) (hnx1 : 1 ≤ nx) (hnx : nx ≤ 65536)
    (hd : DAt w (Apart w mb r) (.sl (dints ls)) [vL]) (hk2 : -1000000000000000000 ≤ k ∧ k ≤ 1000000000000000000) (hlen : ls.length ≤ 1000000) (hls : ∀ y ∈ ls, -1000000000000000000 ≤ y ∧ y ≤ 1000000000000000000) :
    Calls Tryd.prog 39 #[.pointer (some ⟨mb, 0, none⟩), .int .i64 k, vL] w (LitPost w G mb 55 42 ex lins r (.int .i64 nx) (sumsF nx k ls) (nx + 1)) := by
  by_cases h : k ≤ 0 ∨ (0 < k ∧ (ls.length : Int) < k)
  · exact fresh_low mb k nx ls lins r ex v vL G w M (by omega) hnx1 hnx hd h hk2 hlen
  · exact fresh_mid mb k nx ls lins r ex v vL G w M hlins hnx1 hnx hd (by omega) (by omega) hlen hls

end Go.Proofs.YtpacnaeckbcpjaaDoor
