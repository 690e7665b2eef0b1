/- Joined texts: EvB, RefN, EvC. -/
import Derived.Test.YtjjkfgjnadaheaaGreatDoorB31

/- eval: binds, sizes, many. -/
namespace Go.Chalk
open Go.RowKit
theorem sizesF_take {s : Schl} {l : List Bnd} {j : Nat} (hj : j < l.length) : sizesF s (l.take (j + 1)) = sizesF s (l.take j) ++ [schCount s l[j].sort] := by
  unfold sizesF; rw [List.take_succ_eq_append_getElem hj, List.map_append]; rfl
theorem evBinds_take {l : List Ev} {j : Nat} (hj : j < l.length) : evBinds (l.take (j + 1)) = evBinds (l.take j) ++ [⟨l[j].name, l[j].sort⟩] := by
  unfold evBinds; rw [List.take_succ_eq_append_getElem hj, List.map_append]; rfl
def nats (l : List Nat) : List Int := l.map (fun (n : Nat) => (n : Int))
theorem nats_append (a b : List Nat) : nats (a ++ b) = nats a ++ nats b := by simp [nats]
@[simp] theorem nats_length (a : List Nat) : (nats a).length = a.length := by simp [nats]
theorem fold_take {l : List Nat} {j : Nat} (hj : j < l.length) : (l.take (j + 1)).foldl timesF 1 = timesF ((l.take j).foldl timesF 1) l[j] := by
  rw [List.take_succ_eq_append_getElem hj, List.foldl_append]; rfl
theorem nats_one (k : Nat) : dints (nats [k]) = [D.int .i64 k] := rfl
variable {P : Program}
theorem wpList_append_one' {W0 : World} {B : Nat} (hB : W0.heap.size = B) {lo : Nat} {F : Nat -> Prop} {ops : Array Oper} {rest : List Oper} {o : Oper} {a : Act} {Q : Exit -> Act -> World -> Prop} (hgd : o.guard = none) (s x : Operand) (t : TypeId)
    (ho : o.op = .call { callee := .builtin .append, args := #[s, x], argTypes := #[t, t] }) (e : TypeId) (i : TypeInfo) (z : Value) (size bytes : Nat) (ht : P.underlying t = some (.slice e)) (hi : P.info? e = some i) (hz : i.zero = some z)
    (hsize : i.size = size) (hby : i.bytes = bytes) (hzs : z.cells.size = size) (hsz : 0 < size) (v : Value) (xs : List D) (y : D) (cs : List Value) (T : TypeId) (hs : a.eval s = v) (hx : a.eval x = .slice (some ⟨B, 0, none⟩) 1 1)
    (hv : Onto1 W0 lo F e size v xs) (hd : DsAt W0 F [y] cs) (hlo : lo <= W0.heap.size) (hw : y.width = size) (hwx : widths xs = xs.length * size) (h63 : xs.length + 1 <= maxLen) (hbytes : (xs.length + 1) * bytes <= 140737488355328)
    (h : ∀ ao cap w', Onto1 w' lo F e size (.slice ao (xs.length + 1) cap) (xs ++ [y]) -> Below lo W0 w' -> wpList P ops Q rest (a.put o.dst (.slice ao (xs.length + 1) cap)) w') :
    wpList P ops Q (o :: rest) a (W0.alloc (.cells cs.toArray T)) :=
  wpList_append_one hgd s x t ho e i z size bytes ht hi hz hsize hby hzs hsz v xs y cs T hs (by rw [hx, hB]) hv hd hlo hw hwx h63 hbytes h
def OwnN (w : World) (lo : Nat) (F : Nat -> Prop) (e : TypeId) (sz : Nat) (v : Value) (xs : List D) : Prop := ∃ r, Own w F e sz v r xs /\ ∀ k, r = some k -> lo <= k
theorem OwnN.onto {w : World} {lo : Nat} {F : Nat -> Prop} {e : TypeId} {sz : Nat} {v : Value} {xs : List D} (h : OwnN w lo F e sz v xs) : Onto1 w lo F e sz v xs := .inr h
theorem OwnN.nil (w : World) (lo : Nat) (F : Nat -> Prop) (e : TypeId) (sz : Nat) (lt : ∀ k, F k -> k < w.heap.size) : OwnN w lo F e sz (.slice none 0 0) [] := ⟨none, Own.nil _ _ _ _ lt, fun _ h => by cases h⟩
theorem OwnN.below {w w' : World} {lo : Nat} {F : Nat -> Prop} {e : TypeId} {sz : Nat} {v : Value} {xs : List D} (h : OwnN w lo F e sz v xs) (hb : Below w.heap.size w w') : OwnN w' lo F e sz v xs := by
  obtain ⟨r, h1, h2⟩ := h; exact ⟨r, h1.below hb, h2⟩
theorem OwnN.form {w : World} {lo : Nat} {F : Nat -> Prop} {e : TypeId} {sz : Nat} {v : Value} {xs : List D} (h : OwnN w lo F e sz v xs) : ∃ a cap, v = .slice a xs.length cap := by
  obtain ⟨r, h1, _⟩ := h; exact h1.form
theorem wpList_append_oneO {W0 : World} {B : Nat} (hB : W0.heap.size = B) {lo : Nat} {F : Nat -> Prop} {ops : Array Oper} {rest : List Oper} {o : Oper} {a : Act} {Q : Exit -> Act -> World -> Prop} (hgd : o.guard = none) (s x : Operand) (t : TypeId)
    (ho : o.op = .call { callee := .builtin .append, args := #[s, x], argTypes := #[t, t] }) (e : TypeId) (i : TypeInfo) (z : Value) (size bytes : Nat) (ht : P.underlying t = some (.slice e)) (hi : P.info? e = some i) (hz : i.zero = some z)
    (hsize : i.size = size) (hby : i.bytes = bytes) (hzs : z.cells.size = size) (hsz : 0 < size) (v : Value) (xs : List D) (y : D) (cs : List Value) (T : TypeId) (hs : a.eval s = v) (hx : a.eval x = .slice (some ⟨B, 0, none⟩) 1 1)
    (hv : OwnN W0 lo F e size v xs) (hd : DsAt W0 F [y] cs) (hlo : lo <= W0.heap.size) (hw : y.width = size) (h63 : xs.length + 1 <= maxLen) (hbytes : (xs.length + 1) * bytes <= 140737488355328)
    (h : ∀ ao cap w', OwnN w' lo F e size (.slice ao (xs.length + 1) cap) (xs ++ [y]) -> Below lo W0 w' -> wpList P ops Q rest (a.put o.dst (.slice ao (xs.length + 1) cap)) w') :
    wpList P ops Q (o :: rest) a (W0.alloc (.cells cs.toArray T)) := by
  obtain ⟨r, h1, h2⟩ := hv
  have hb : Below W0.heap.size W0 (W0.alloc (.cells cs.toArray T)) := (Below.refl _ _).alloc (Nat.le_refl _) _
  have hnb : (W0.alloc (.cells cs.toArray T)).heap[W0.heap.size]? = some (.cells cs.toArray T (0, 0)) := boxed (B := W0.heap.size + 1) (Below.refl _ _) (by omega)
  have hnews : ∀ j u, cs[j]? = some u -> (W0.alloc (.cells cs.toArray T)).cell? ((⟨W0.heap.size, 0, none⟩ : Addr).add j) = some u := fun j u hu => by
    have hc := cell_of_heap (i := j) hnb (v := u) (by simpa using hu)
    unfold Addr.add
    by_cases h0 : j = 0
    · subst h0; simpa using hc
    · rw [if_neg h0]; simpa using hc
  have hlen : cs.length = 1 * size := by
    have := DsAt.length _ _ hd
    rw [this]; simp [widths, hw]
  have hd' : DsAt (W0.alloc (.cells cs.toArray T)) F [y] cs := DsAt.agree ((agree_of_below hb).mono h1.lt) _ _ hd
  have h1' := h1.alloc (.cells cs.toArray T)
  obtain ⟨cs0, k1, k2⟩ := h1'.cells
  refine wpList_append_lies (W0.alloc (.cells cs.toArray T)) hgd s x t ho 0 e i z size bytes ht hi hz hsize hby hzs hsz v xs.length cs0 hs k1 ⟨W0.heap.size, 0, none⟩ 1 1 cs (by rw [hx, hB]) hlen hnews (DsAt.one _ _ hd) (by omega) h63 hbytes (Nat.zero_le _) _ rfl (fun g cap w' hown hgr hat hlt => ?_)
  obtain ⟨g1, g2, g3⟩ := h1'.appended (ys := [y]) k2 hown hgr (by rcases hat with h | h; exact .inl h.symm; exact .inr (by rw [h]; rfl)) hd'
  have hm0 : Mod (fun k => r = some k) W0 w' := (Mod.of_below (S := fun k => r = some k) hb).trans g2 (fun _ _ h => h)
  refine h _ _ _ ⟨_, g1, fun k hk => ?_⟩ (hm0.below hlo (fun k hk => h2 k hk))
  rcases g3 with g3 | g3
  · rw [g3] at hk; exact h2 k hk
  · rw [g3] at hk; simp at hk; omega
end Go.Chalk
namespace Go.Proofs.YtjjkfgjnadaheaaGreatDoor
open Go.RowKit Go.Chalk
theorem count_le {s : Schl} (hsm : SchSmall s) (sort : Int) : schCount s sort <= 2000000 := by
  have h1 := hsm.slots; have h2 := hsm.rooms; have h3 := hsm.people; have h4 := hsm.groups; have h5 := hsm.lessons
  rw [schCount_eq]
  repeat' split
  all_goals omega

set_option maxRecDepth 100000 in
set_option maxHeartbeats 1000000 in
theorem ebinds_any (l : List Ev) (x : SlA) (w : World) (hx : SlIn w (· < w.heap.size) (l.map Ev.toD) x) (hl : l.length <= 2000000) :
    Calls Tryz.prog 54 #[.slice x.a l.length x.cap] w fun e w' => ∃ v, e = .returned v /\ Onto1 w' w.heap.size (fun _ => False) 149 2 v ((evBinds l).map Bnd.toD) /\ Below w.heap.size w w' := by
  obtain ⟨g1, _, _, g4, g5⟩ := hx.flat Ev.flatT
  have HC := Lib.hid g4
  have HFN := Lib.hid g5
  obtain ⟨i0, hi, hz0, hz1, hz2⟩ := info_parts infoBnd
  clear hx g4 g5
  go_enter Tryz.func54, Tryz.ntmps54
  go_wp2_with fail
  go_loopw [3, 8] (fun v i wr => ∃ j : Nat, j <= l.length /\ i = .int .i64 j /\ Below w.heap.size w wr /\ Hid (Onto1 wr w.heap.size (fun _ => False) 149 2 v ((evBinds (l.take j)).map Bnd.toD))) (fun _ i _ => l.length - (intOf i).toNat)
  case atStart => exact ⟨0, Nat.zero_le _, rfl, Below.refl _ _, Lib.hid (Onto1.nil _ _ _ _ _ (fun _ h => h.elim))⟩
  case round =>
    obtain ⟨j, hj, rfl, hb, HO⟩ := hrel
    by_cases hlt : j < l.length
    · obtain ⟨oa, ocap, ho⟩ := HO.out.form
      subst ho
      have hlen : ((evBinds (l.take j)).map Bnd.toD).length = j := by simp [evBinds]; omega
      rw [hlen] at HO ⊢
      obtain ⟨hxa, hbl⟩ := g1 (by omega)
      obtain ⟨q0, q1, q2⟩ := HC.out.three j hlt rfl
      have e0 := (hb.cell (p := ⟨x.b, x.o + j * 3, none⟩) hbl).trans q0
      have e1 := (hb.cell (p := ⟨x.b, x.o + j * 3 + 1, none⟩) hbl).trans q1
      have e2 := (hb.cell (p := ⟨x.b, x.o + j * 3 + 2, none⟩) hbl).trans q2
      have HFJ := Lib.hid (HFN.out _ (List.getElem_mem hlt))
      have HT := Lib.hid (evBinds_take hlt)
      have hb1 : Below wr.heap.size wr (wr.alloc (.cells #[.string ⟨l[j].name.toArray⟩, .int .i64 l[j].sort, .int .i64 l[j].at_] 76)) := (Below.refl _ _).alloc (Nat.le_refl _) _
      have HO1 := Lib.hid (HO.out.below hb1)
      have HB1 := Lib.hid (hb.trans (hb1.mono hb.size))
      have HLN := Lib.hid hlen
      rw [hxa]
      clear q0 q1 q2 hb1 hlen
      generalize evBinds (l.take j) = bs at HO HO1 HT HLN
      generalize l[j] = ev at HFJ HT HO1 HB1 e0 e1 e2
      obtain ⟨nm, so, at_⟩ := ev
      simp only at HT HO1 HB1 e0 e1 e2
      go_wp2_with (at_builtin; go_must (refine wpList_append_one' (B := wr.heap.size + 1) (by simp) rfl _ _ 31 rfl 149 i0 _ 2 24 Tryz.underlying31 hi hz0 hz1 hz2 rfl (by decide) (.slice oa j ocap) (bs.map Bnd.toD) (Bnd.toD ⟨nm, so⟩) [.string ⟨nm.toArray⟩, .int .i64 so] 149 rfl rfl HO1.out (DsAt.flat1 (Bnd.flatT.flat _) ⟨HFJ.out.1, HFJ.out.2.1, trivial⟩) (by have := HB1.out.size; omega) rfl (by rw [widths_map Bnd.flatT, List.length_map]) (by rw [HLN.out]; unfold maxLen; omega) (by rw [HLN.out]; omega) ?_); intro ao cap w5 hon hb5; rw [HLN.out] at hon ⊢; have HON := Lib.hid (And.intro hon (HB1.out.trans hb5)); clear hon hb5)
      refine ⟨⟨j + 1, by omega, by go_num, HON.out.2, Lib.hid ?_⟩, by simp [intOf]; omega⟩
      rw [HT.out, List.map_append]; exact HON.out.1
    · have HL : Hid (l.take j = l) := Lib.hid (List.take_of_length_le (by omega))
      go_wp2_with fail
      go_ret
      refine ⟨_, rfl, ?_, hb⟩
      have := HO.out
      rw [HL.out] at this; exact this

set_option maxRecDepth 100000 in
set_option maxHeartbeats 1000000 in
theorem esizes_any (s : Schl) (x : SchA) (l : List Bnd) (y : SlA) (w : World) (hI : ItoaAt) (hs : SchIn w (· < w.heap.size) s x) (hsm : SchSmall s) (hy : SlIn w (· < w.heap.size) (l.map Bnd.toD) y) (hl : l.length <= 2000000) :
    Calls Tryz.prog 176 #[.agg (x.cells s).toArray, .slice y.a l.length y.cap] w fun e w' => ∃ v, e = .returned v /\ OwnN w' (w.heap.size + 1) (fun _ => False) 3 1 v (dints (nats (sizesF s l))) /\ Below w.heap.size w w' := by
  obtain ⟨g1, _, _, g4, _⟩ := hy.flat Bnd.flatT
  have HC := Lib.hid g4
  have HCT := Lib.hid (fun (sort : Int) (W : World) (hW : Below w.heap.size w W) => count_any s x sort W hI (hs.later hW hW.size) hsm)
  have HLE := Lib.hid (fun sort => count_le hsm sort)
  have hbx : SchBox (w.alloc (.cells (x.cells s).toArray 28)) w.heap.size s x := by unfold SchBox; rw [heap_get, if_pos rfl]
  have HBX := Lib.hid hbx
  obtain ⟨i0, hi, hz0, hz1, hz2⟩ := info_parts infoInt
  clear hy hs g4 hsm hI hbx
  simp only [SchA.cells, SlA.val] at HCT HBX ⊢
  go_enter Tryz.func176, Tryz.ntmps176
  go_wp2_with fail
  go_loopw [5, 10] (fun v i wr => ∃ j : Nat, j <= l.length /\ i = .int .i64 j /\ Below w.heap.size w wr /\ Hid (SchBox wr w.heap.size s x) /\ Hid (OwnN wr (w.heap.size + 1) (fun _ => False) 3 1 v (dints (nats (sizesF s (l.take j)))))) (fun _ i _ => l.length - (intOf i).toNat)
  case atStart => exact ⟨0, Nat.zero_le _, rfl, (Below.refl _ _).alloc (Nat.le_refl _) _, HBX, Lib.hid (OwnN.nil _ _ _ _ _ (fun _ h => h.elim))⟩
  case round =>
    obtain ⟨j, hj, rfl, hb, HBX, HO⟩ := hrel
    by_cases hlt : j < l.length
    · obtain ⟨oa, ocap, ho⟩ := HO.out.form
      subst ho
      have hlen : (dints (nats (sizesF s (l.take j)))).length = j := by simp [sizesF]; omega
      rw [hlen] at HO ⊢
      obtain ⟨hxa, hbl⟩ := g1 (by omega)
      obtain ⟨q0, q1⟩ := HC.out.two j hlt rfl
      have e0 := (hb.cell (p := ⟨y.b, y.o + j * 2, none⟩) hbl).trans q0
      have e1 := (hb.cell (p := ⟨y.b, y.o + j * 2 + 1, none⟩) hbl).trans q1
      have HT := Lib.hid (sizesF_take (s := s) hlt)
      have hb1 : Below wr.heap.size wr (wr.alloc (.cells #[.string ⟨l[j].name.toArray⟩, .int .i64 l[j].sort] 149)) := (Below.refl _ _).alloc (Nat.le_refl _) _
      have HO1 := Lib.hid (HO.out.below hb1)
      have HB1 := Lib.hid (hb.trans (hb1.mono hb.size))
      have hsb := HBX.out.below hb1
      have HSB := Lib.hid hsb
      obtain ⟨c0, c1, c2, c3, c4⟩ := hsb.cells
      have HLN := Lib.hid hlen
      have HCJ := Lib.hid (HCT.out l[j].sort _ HB1.out)
      rw [hxa]
      clear q0 q1 hb1 hlen hsb
      generalize sizesF s (l.take j) = bs at HO HO1 HT HLN
      generalize l[j] = ev at HT HO1 HB1 HSB HCJ e0 e1 c0 c1 c2 c3 c4
      obtain ⟨nm, so⟩ := ev
      simp only at HT HO1 HB1 HSB HCJ e0 e1 c0 c1 c2 c3 c4
      have HLS := Lib.hid (HLE.out so)
      generalize schCount s so = k at HCJ HT HLS
      go_wp2_with fail
      refine HCJ.out.mono ?_
      rintro e w1 ⟨rfl, hb2⟩
      have HO2 := Lib.hid (HO1.out.below hb2)
      have HB2 := Lib.hid (And.intro (HB1.out.trans (hb2.mono HB1.out.size)) (HSB.out.below hb2))
      clear hb2
      go_wp2_with (at_builtin; go_must (refine wpList_append_oneO rfl rfl _ _ 90 rfl 3 i0 _ 1 8 Tryz.underlying90 hi hz0 hz1 hz2 rfl (by decide) (.slice oa j ocap) (dints (nats bs)) (.int .i64 k) [.int .i64 k] 3 rfl rfl HO2.out (DsAt.flat1 (x := .int .i64 k) rfl (I64.wf (by have := HLS.out; exact i64_small (by omega) (by omega)))) (by have := HB2.out.2.lt; omega) rfl (by rw [HLN.out]; unfold maxLen; omega) (by rw [HLN.out]; omega) ?_); intro ao cap w5 hon hb5; rw [HLN.out] at hon ⊢; have HON := Lib.hid (And.intro hon (And.intro (HB2.out.1.trans (hb5.mono (by omega))) (show SchBox w5 w.heap.size s x from (hb5.block _ (by omega)).trans HB2.out.2))); clear hon hb5)
      refine ⟨⟨j + 1, by omega, by go_num, HON.out.2.1, Lib.hid HON.out.2.2, Lib.hid ?_⟩, by simp [intOf]; omega⟩
      rw [HT.out, nats_append, dints_append, nats_one]; exact HON.out.1
    · have HL : Hid (l.take j = l) := Lib.hid (List.take_of_length_le (by omega))
      go_wp2_with fail
      go_ret
      refine ⟨_, rfl, ?_, hb⟩
      have := HO.out
      rw [HL.out] at this; exact this
end Go.Proofs.YtjjkfgjnadaheaaGreatDoor
/- The reference's Names and Count. -/
namespace Go.Proofs.YtjjkfgjnadaheaaGreatDoor
open Go.RowKit Go.Chalk
end Go.Proofs.YtjjkfgjnadaheaaGreatDoor
/- eval: many, broad. -/
namespace Go.Chalk
open Go.RowKit
theorem sizesF_le {s : Schl} {l : List Bnd} (h : ∀ sort, schCount s sort <= 2000000) : ∀ k ∈ sizesF s l, k <= 2000000 := fun k hk => by
  unfold sizesF at hk
  obtain ⟨b, _, rfl⟩ := List.mem_map.1 hk
  exact h b.sort
theorem timesF_le (a b : Nat) : timesF a b <= 1048577 := by unfold timesF; omega
theorem broadL_snoc (s : Schl) : ∀ (l : List Frm) (f : Frm) (n : Nat), broadL s (l ++ [f]) n = min (broadL s l n + broadF s f) 1048577
  | [], f, n => by rw [List.nil_append, broadL, broadL, broadL]
  | g :: r, f, n => by rw [List.cons_append, broadL, broadL_snoc s r f, broadL]
theorem broadL_take {s : Schl} {l : List Frm} {j : Nat} (hj : j < l.length) : broadL s (l.take (j + 1)) 0 = min (broadL s (l.take j) 0 + broadF s l[j]) 1048577 := by
  rw [List.take_succ_eq_append_getElem hj, broadL_snoc]
theorem broadL_le (s : Schl) (l : List Frm) (j : Nat) : broadL s (l.take j) 0 <= 1048577 := by
  induction j with
  | zero => simp [broadL]
  | succ j ih =>
    by_cases h : j < l.length
    · rw [broadL_take h]; omega
    · rw [List.take_of_length_le (by omega)]
      rw [List.take_of_length_le (by omega)] at ih; exact ih
end Go.Chalk
namespace Go.Proofs.YtjjkfgjnadaheaaGreatDoor
open Go.RowKit Go.Chalk
set_option maxRecDepth 100000 in
set_option maxHeartbeats 1000000 in
theorem many_any (s : Schl) (x : SchA) (l : List Bnd) (y : SlA) (w : World) (hI : ItoaAt) (hs : SchIn w (· < w.heap.size) s x) (hsm : SchSmall s) (hy : SlIn w (· < w.heap.size) (l.map Bnd.toD) y) (hl : l.length <= 2000000) :
    Calls Tryz.prog 104 #[.agg (x.cells s).toArray, .slice y.a l.length y.cap] w fun e w' => e = .returned (.int .i64 (manyF s l)) /\ Below w.heap.size w w' := by
  have hba : Below w.heap.size w (w.alloc (.cells (x.cells s).toArray 28)) := (Below.refl _ _).alloc (Nat.le_refl _) _
  have HSZ := Lib.hid (esizes_any s x l y _ hI (hs.later hba hba.size) hsm (hy.later hba hba.size) hl)
  have hle := sizesF_le (l := l) (fun sort => count_le hsm sort)
  have hln : (sizesF s l).length = l.length := by simp [sizesF]
  have HM : Hid (manyF s l = (sizesF s l).foldl timesF 1) := Lib.hid rfl
  have HB := Lib.hid hba
  clear hs hy hba hI hsm
  generalize manyF s l = res at HM ⊢
  generalize sizesF s l = sz at *
  simp only [SchA.cells, SlA.val] at HSZ HB ⊢
  go_enter Tryz.func104, Tryz.ntmps104
  go_wp2_with fail
  refine HSZ.out.mono ?_
  rintro e w1 ⟨v, rfl, hon, hb⟩
  have HW := Lib.hid (HB.out.trans (hb.mono HB.out.size))
  obtain ⟨x0, rfl, hx0⟩ := hon.onto.sl (by rw [dints_widths]; simp)
  obtain ⟨k1, _, _, _, k5⟩ := hx0.ints
  rw [show (dints (nats sz)).length = sz.length from by simp]
  rw [nats_length] at k1
  have HC := Lib.hid k5
  have HLE := Lib.hid hle
  have HLN := Lib.hid hln
  clear hb hon hx0 k5 hle hln
  simp only [SlA.val]
  go_wp2_with fail
  go_loop [5, 12] (fun n i => ∃ j : Nat, j <= sz.length /\ i = .int .i64 j /\ n = .int .i64 ((sz.take j).foldl timesF 1 : Nat)) (fun _ i => sz.length - (intOf i).toNat)
  case atStart => exact ⟨0, Nat.zero_le _, rfl, rfl⟩
  case round =>
    obtain ⟨j, hj, rfl, rfl⟩ := hrel
    have hszl : sz.length <= 2000000 := by rw [HLN.out]; exact hl
    by_cases hlt : j < sz.length
    · obtain ⟨hxa, _⟩ := k1 (by omega)
      have e0 := HC.out j (by simpa using hlt)
      rw [show (nats sz)[j]'(by simpa using hlt) = (sz[j] : Int) from by simp [nats]] at e0
      have hk := HLE.out _ (List.getElem_mem hlt)
      have hn : (sz.take j).foldl timesF 1 <= 1048577 := fold_times_le 0 _ _ (by omega)
      have HT := Lib.hid (fold_take hlt)
      rw [hxa]
      generalize (sz.take j).foldl timesF 1 = n at HT hn
      generalize sz[j] = k at HT hk e0
      go_wp2_with (go_at_call 103; refine (times_any n k (by omega) (by omega) _).mono ?_; rintro e w' ⟨rfl, rfl⟩)
      go_round
      case rel => exact ⟨j + 1, by omega, by go_num, by rw [HT.out]⟩
      case measure => simp [intOf]; omega
    · have HL : Hid (sz.take j = sz) := Lib.hid (List.take_of_length_le (by omega))
      go_wp2_with fail
      go_ret
      exact ⟨ret_int (by rw [HM.out, HL.out]), HW.out⟩

set_option maxRecDepth 100000 in
set_option maxHeartbeats 1000000 in
theorem broad_any (s : Schl) (x : SchA) (hI : ItoaAt) (hsm : SchSmall s) (m : Nat) : ∀ (f : Frm) (y : FrmA) (w : World), f.size <= m -> f.size <= 2000000 -> (∀ g ∈ nodesF f, g.binds.length <= 2000000) -> SchIn w (· < w.heap.size) s x -> FrmIn w (· < w.heap.size) f y ->
    Calls Tryz.prog 55 #[.agg (x.cells s).toArray, ndV (f, y)] w fun e w' => e = .returned (.int .i64 (broadF s f)) /\ Below w.heap.size w w' := by
  induction m with
  | zero => intro f _ _ h; have := f.size_pos; omega
  | succ m ih =>
    rintro ⟨kind, name, n, terms, binds, fl⟩ y w hm hsz hnd hs hy
    rw [Frm.size] at hm hsz
    have hll := length_le_fsizes fl
    have hba : Below w.heap.size w ((w.alloc (.cells (x.cells s).toArray 28)).alloc (.cells (y.cells (.mk kind name n terms binds fl)).toArray 34)) := ((Below.refl _ _).alloc (Nat.le_refl _) _).alloc (by simp) _
    have hbx : SchBox ((w.alloc (.cells (x.cells s).toArray 28)).alloc (.cells (y.cells (.mk kind name n terms binds fl)).toArray 34)) w.heap.size s x := by unfold SchBox; rw [heap_get, if_neg (by simp), heap_get, if_pos rfl]
    have hby : ((w.alloc (.cells (x.cells s).toArray 28)).alloc (.cells (y.cells (.mk kind name n terms binds fl)).toArray 34)).heap[w.heap.size + 1]? = some (.cells (y.cells (.mk kind name n terms binds fl)).toArray 34 (0, 0)) := by rw [heap_get, if_pos (by simp)]
    have HFI : Hid (∀ (j : Nat) (hj : j < fl.length), ∃ y1 : FrmA, FrmIn w (· < w.heap.size) fl[j] y1 /\ CellsAt w y.l.b (y.l.o + j * 6) (y1.cells fl[j])) := Lib.hid (fun j hj => hy.l.frm j hj)
    have HFS : Hid (SlAt (· < w.heap.size) y.l.a y.l.b y.l.o fl.length) := Lib.hid (by have := hy.l.at_; rw [List.length_map] at this; exact this)
    have HIH := Lib.hid (fun (j : Nat) (hj : j < fl.length) (y1 : FrmA) (W : World) (hW : Below w.heap.size w W) (h1 : FrmIn w (· < w.heap.size) fl[j] y1) => ih fl[j] y1 W (by have := size_le_fsizes fl j hj; omega) (by have := size_le_fsizes fl j hj; omega) (fun g hg => hnd g (by
      rw [nodesF]
      exact List.mem_cons_of_mem _ (by rw [nodesL_eq]; exact List.mem_flatten.2 ⟨_, List.mem_map.2 ⟨_, List.getElem_mem hj, rfl⟩, hg⟩))) (hs.later hW hW.size) (h1.later hW hW.size))
    have HMY := Lib.hid (fun (W : World) (hW : Below w.heap.size w W) => many_any s x binds y.b W hI (hs.later hW hW.size) hsm (hy.binds.later hW hW.size) (show binds.length <= 2000000 from hnd (.mk kind name n terms binds fl) (by rw [nodesF]; exact List.mem_cons_self ..)))
    have HR : Hid (broadF s (.mk kind name n terms binds fl) = min (timesF (broadL s fl 0) (manyF s binds) + 1) 1048577) := Lib.hid (by rw [broadF])
    have hmy := manyF_le s binds
    have HB := Lib.hid (And.intro hba (And.intro hbx hby))
    clear ih hnd hs hy hba hbx hby
    generalize broadF s (.mk kind name n terms binds fl) = res at HR ⊢
    generalize manyF s binds = my at HMY HR hmy
    simp only [ndV, SchA.cells, FrmA.cells, SlA.val, Frm.kind, Frm.name, Frm.n, Frm.terms, Frm.binds, Frm.l] at HB HMY ⊢
    go_enter Tryz.func55, Tryz.ntmps55
    go_wp2_with fail
    go_loopw [5, 11] (fun nn i wr => ∃ j : Nat, j <= fl.length /\ i = .int .i64 j /\ nn = .int .i64 (broadL s (fl.take j) 0 : Nat) /\ Below w.heap.size w wr /\ Hid (SchBox wr w.heap.size s x /\ wr.heap[w.heap.size + 1]? = some (.cells #[.int .i64 kind, .string ⟨name.toArray⟩, .int .i64 n, .slice y.t.a terms.length y.t.cap, .slice y.b.a binds.length y.b.cap, .slice y.l.a fl.length y.l.cap] 34 (0, 0)))) (fun _ i _ => fl.length - (intOf i).toNat)
    case atStart => exact ⟨0, Nat.zero_le _, rfl, rfl, HB.out.1, Lib.hid HB.out.2⟩
    case round =>
      obtain ⟨j, hj, rfl, rfl, hb, HBX⟩ := hrel
      have hbn := broadL_le s fl j
      by_cases hlt : j < fl.length
      · obtain ⟨y1, hy1, hy2⟩ := HFI.out j hlt
        obtain ⟨hxa, hFb⟩ := HFS.out (by omega)
        obtain ⟨e0, e1, e2, e3, e4, e5⟩ := (hy2.agree (agree_of_below hb) hFb).six
        have hbr : Below wr.heap.size wr (wr.alloc (.cells (y1.cells fl[j]).toArray 34)) := (Below.refl _ _).alloc (Nat.le_refl _) _
        have hbw := hb.trans (hbr.mono hb.size)
        have HCL := Lib.hid (HIH.out j hlt y1 _ hbw hy1)
        have hsb := HBX.out.1.below hbr
        obtain ⟨c0, c1, c2, c3, c4⟩ := hsb.cells
        have HS1 := Lib.hid (And.intro hbw (And.intro hsb ((hbr.block _ (Array.getElem?_eq_some_iff.1 HBX.out.2).1).trans HBX.out.2)))
        have HT := Lib.hid (broadL_take (s := s) hlt)
        have hbf := broadF_le s fl[j]
        rw [hxa] at HBX HS1 ⊢
        clear hy1 hy2 hFb hbr hbw hsb
        generalize broadL s (fl.take j) 0 = nn at HT hbn
        generalize broadF s fl[j] = bf at HT HCL hbf
        generalize fl[j] = fe at HCL HS1 e0 e1 e2 e3 e4 e5 c0 c1 c2 c3 c4
        obtain ⟨kind1, name1, n1, terms1, binds1, fl1⟩ := fe
        simp only [ndV, SchA.cells, FrmA.cells, SlA.val, Frm.kind, Frm.name, Frm.n, Frm.terms, Frm.binds, Frm.l] at HCL HS1 e0 e1 e2 e3 e4 e5 c0 c1 c2 c3 c4
        go_wp2_with fail
        refine HCL.out.mono ?_
        rintro e w1 ⟨rfl, hb1⟩
        have HB1 := Lib.hid (And.intro (HS1.out.1.trans (hb1.mono HS1.out.1.size)) (And.intro (HS1.out.2.1.below hb1) ((hb1.block _ (Array.getElem?_eq_some_iff.1 HS1.out.2.2).1).trans HS1.out.2.2)))
        clear hb1
        go_wp2_with fail
        refine ⟨⟨j + 1, by omega, by go_num, ?_, HB1.out.1, Lib.hid HB1.out.2⟩, by simp [intOf]; omega⟩
        rw [HT.out]
        refine congrArg (Value.int .i64) ?_
        omega
      · have HL : Hid (broadL s (fl.take j) 0 = broadL s fl 0) := Lib.hid (by rw [List.take_of_length_le (by omega)])
        obtain ⟨c0, c1, c2, c3, c4⟩ := HBX.out.1.cells
        have f4 : wr.cell? ⟨w.heap.size + 1, 4, none⟩ = some (.slice y.b.a binds.length y.b.cap) := cell_of_heap HBX.out.2 rfl
        have HMW := Lib.hid (HMY.out wr hb)
        rw [<- HL.out] at HR
        generalize broadL s (fl.take j) 0 = nn at HR hbn
        go_wp2_with fail
        refine HMW.out.mono ?_
        rintro e w1 ⟨rfl, hb1⟩
        have HB1 := Lib.hid (hb.trans (hb1.mono hb.size))
        have htl := timesF_le nn my
        clear hb1 HL
        go_wp2_with (go_at_call 103; refine (times_any nn my (by omega) (by omega) _).mono ?_; rintro e w' ⟨rfl, rfl⟩)
        go_ret
        exact ⟨ret_int (by rw [HR.out]; omega), HB1.out⟩
end Go.Proofs.YtjjkfgjnadaheaaGreatDoor
