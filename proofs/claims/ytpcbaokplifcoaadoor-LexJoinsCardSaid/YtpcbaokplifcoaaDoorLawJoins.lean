/- LexJoins: for every list of tokens, where the listed library variables hold what their text lays, the law returns true: Join agrees with the reference. -/
import Derived.Test.YtpcbaokplifcoaaDoorLexW
namespace Go.Proofs.YtpcbaokplifcoaaDoor
open Go.ChangeShapes Go.WideShapes Go.ChangeAt Go.RowKit Go.Chalk

theorem tokTypes : plainTypes Tryd.prog [24, 34, 3, 9] = true := by kernel_rfl
set_option maxRecDepth 100000 in
theorem tokFields : ∃ fs : Array Field, Tryd.prog.underlying 34 = some (.struct fs) ∧ fs.toList.map (·.type) = [3, 9, 3] := ⟨_, Tryd.underlying34, rfl⟩
def dtok (x : Int × Bs × Int) : D := .st [.int .i64 x.1, .str ⟨x.2.1.toArray⟩, .int .i64 x.2.2]
theorem dtok_width (x : Int × Bs × Int) : (dtok x).width = 3 := by simp [dtok, D.width, widths]
set_option maxRecDepth 100000 in
theorem dtok_of {m : Nat} {y : D} (h : Fits Tryd.prog m 34 y) : ∃ x, y = dtok x := by
  obtain ⟨fs, hu, hts⟩ := tokFields
  obtain ⟨m', xs, rfl, rfl, hx⟩ := h.struct hu hts
  match xs, hx with
  | [x0, x1, x2], ⟨h0, h1, h2, _⟩ =>
    obtain ⟨k0, rfl, _⟩ := h0.int Tryd.underlying3
    obtain ⟨s, rfl, _⟩ := h1.str Tryd.underlying9
    obtain ⟨k2, rfl, _⟩ := h2.int Tryd.underlying3
    exact ⟨(k0, s.data.toList, k2), by rw [dtok, bytes_eq]⟩
theorem dtok_at {w : World} {F : Nat → Prop} {x : Int × Bs × Int} {cs : List Value} (h : DAt w F (dtok x) cs) : cs = [.int .i64 x.1, .string ⟨x.2.1.toArray⟩, .int .i64 x.2.2] ∧ x.2.1.length ≤ maxLen := by
  rw [dtok, DAt, DsAt] at h
  obtain ⟨d1, e1, rfl, h3, h4⟩ := h
  rw [DAt] at h3
  obtain ⟨rfl, _⟩ := h3
  rw [DsAt] at h4
  obtain ⟨d2, e2, rfl, h5, h6⟩ := h4
  rw [DAt] at h5
  obtain ⟨rfl, hs⟩ := h5
  rw [DsAt] at h6
  obtain ⟨d3, e3, rfl, h7, h8⟩ := h6
  rw [DAt] at h7
  obtain ⟨rfl, _⟩ := h7
  rw [DsAt] at h8
  subst h8
  exact ⟨rfl, by rw [size_mk] at hs; exact hs⟩
set_option maxRecDepth 100000 in
theorem toks_arg {H : Type} {enc : TypeId × Value → H} {W : World} {base : Nat} {v : Value} {d : DataW H} {ps : List MemPlace} {sp : Nat → Bool} {held : Bool} (hval : Value.okWide Tryd.prog W .any base 24 v) (h : DataW.Trod enc Tryd.prog W 0 sp held 24 v d ps) :
    ∃ (ts : List Tok) (zs : Nat → Int) (a : Option Addr) (b o cap : Nat), v = .slice a ts.length cap ∧ TksV W W.heap.size ts zs a b o ∧ (∀ t ∈ ts, t.text.length ≤ maxLen) ∧ ts.length ≤ cap ∧ cap ≤ maxLen := by
  obtain ⟨fuel, hf⟩ := h
  obtain ⟨h1, h2, h3⟩ := trod_at tokTypes fuel _ _ _ _ (by simp) hf
  obtain ⟨l, hl⟩ := h2.slice_of Tryd.underlying24 (f := dtok) (fun j y _ hy => dtok_of hy)
  obtain ⟨a0, n0, cap0, rfl⟩ := okWide_slice Tryd.underlying24 hval
  rw [hl, DAt] at h1
  obtain ⟨a, b, o, cap, e, g1, g2, g3, g4⟩ := h1
  simp only [Value.cells, List.cons.injEq, and_true, List.length_map] at e g1 g2
  have key : ∀ i (hi : i < l.length), (W.cell? ⟨b, o + i * 3, none⟩ = some (.int .i64 l[i].1) ∧ W.cell? ⟨b, o + i * 3 + 1, none⟩ = some (.string ⟨l[i].2.1.toArray⟩) ∧ W.cell? ⟨b, o + i * 3 + 2, none⟩ = some (.int .i64 l[i].2.2)) ∧ l[i].2.1.length ≤ maxLen := by
    intro i hi
    obtain ⟨cs, k1, k2⟩ := g4.get (sz := 3) (fun x hx => by simp only [List.mem_map] at hx; obtain ⟨y, _, rfl⟩ := hx; exact dtok_width y) i (by simpa using hi)
    have e2 : (l.map dtok)[i]'(by simpa using hi) = dtok l[i] := by simp
    rw [e2] at k1
    obtain ⟨rfl, hm⟩ := dtok_at k1
    exact ⟨⟨by simpa using k2 0 (by simp), by simpa using k2 1 (by simp), by simpa using k2 2 (by simp)⟩, hm⟩
  refine ⟨l.map (fun x => ⟨x.1, x.2.1, 0⟩), fun i => (l.map (fun x => x.2.2)).getD i 0, a, b, o, cap, by simpa using e, ⟨by simpa using g1, fun i hi => ?_⟩, fun t ht => ?_, by simpa using g2, g3⟩
  · have hi' : i < l.length := by simpa using hi
    have := (key i hi').1
    simpa [List.getD, hi'] using this
  · obtain ⟨x, hx, rfl⟩ := List.mem_map.1 ht
    obtain ⟨i, hi, rfl⟩ := List.getElem_of_mem hx
    exact (key i hi).2

set_option maxRecDepth 100000 in
set_option maxHeartbeats 1000000 in
theorem joins_walk (w : World) (hg : GAt w) (ts : List Tok) (zs : Nat → Int) (a : Option Addr) (b o cap : Nat) (hv : TksV w w.heap.size ts zs a b o) (hl : ∀ t ∈ ts, t.text.length ≤ maxLen) (hcap : ts.length ≤ cap) (hmax : cap ≤ maxLen) :
    Calls Tryd.prog 4 #[.slice a ts.length cap] w fun e w' => e = .returned (.bool true) ∧ Below w.heap.size w w' := by
  have HLV := Lib.hid (live_any w hg)
  have HFW := Lib.hid (fun (W : World) (h : Below w.heap.size w W) => few_any ts zs a b o cap W (hv.below h h.size) (Nat.le_trans hcap hmax) hl)
  have HJ := Lib.hid (fun (h1 : ts.length ≤ 200 ∧ ∀ t ∈ ts, t.text.length ≤ 200) (W : World) (h : Below w.heap.size w W) =>
    have hsp : (spaced ((ts.take (ts.length - 1)).map Tok.text)).length ≤ 140737488355328 := by
      have h3 := spaced_length ((ts.take (ts.length - 1)).map Tok.text)
      have h4 : ∀ (xs : List Bs), (∀ x ∈ xs, x.length ≤ 200) → (xs.map List.length).sum ≤ 200 * xs.length := by
        intro xs
        induction xs with
        | nil => intro _; simp
        | cons x r ih =>
          intro hx
          have h5 := hx x (by simp)
          have h6 := ih (fun y hy => hx y (by simp [hy]))
          simp only [List.map_cons, List.sum_cons, List.length_cons]; omega
      have h7 := h4 ((ts.take (ts.length - 1)).map Tok.text) (fun x hx => by
        obtain ⟨t, ht, rfl⟩ := List.mem_map.1 hx
        exact h1.2 t (List.mem_of_mem_take ht))
      have h8 : ((ts.take (ts.length - 1)).map Tok.text).length ≤ 200 := by rw [List.length_map, List.length_take]; omega
      omega
    And.intro (join_any ts zs a b o cap W (hv.below h h.size) hcap (fun t ht => by have := h1.2 t ht; omega) (hg.below h) (by omega) hsp)
      (joinR_any ts zs a b o cap W (hv.below h h.size) hcap (fun t ht => by have := h1.2 t ht; omega) (by omega) hsp))
  unfold maxLen at hmax
  clear hv hl hg
  go_enter Tryd.func4, Tryd.ntmps4
  go_wp2_with (go_at_call 9; refine HLV.out.mono ?_; rintro e w1 ⟨rfl, hb1⟩)
  have HB1 := Lib.hid hb1
  clear hb1
  refine (HFW.out _ HB1.out).mono ?_
  rintro e w2 ⟨f, rfl, hf, rfl⟩
  cases f
  · clear hf
    go_wp2_with fail
    go_ret
    exact ⟨rfl, HB1.out⟩
  · have HJ2 := Lib.hid (HJ.out (hf rfl))
    clear hf HJ
    go_wp2_with fail
    refine (HJ2.out _ HB1.out).1.mono ?_
    rintro e w3 ⟨v3, rfl, hv3, hb3⟩
    obtain ⟨r, er, hjf⟩ : ∃ r er, joinF ts = (r, er) := ⟨_, _, rfl⟩
    have HJF := Lib.hid hjf
    rw [hjf] at hv3 ⊢
    simp only at hv3 ⊢
    obtain ⟨a3, b3, o3, cap3, rfl, hs3, hc3⟩ := hv3
    have HS3 := Lib.hid hs3
    have HB3 := Lib.hid (HB1.out.trans (hb3.mono HB1.out.size))
    clear hs3 hb3 hjf
    go_wp2_with fail
    refine (HJ2.out _ HB3.out).2.mono ?_
    rintro e w4 ⟨v4, rfl, hv4, hb4⟩
    rw [HJF.out] at hv4 ⊢
    simp only at hv4 ⊢
    obtain ⟨a4, b4, o4, cap4, rfl, hs4, hc4⟩ := hv4
    have t3 := (HS3.out.below hb4 hb4.size).text (P := Tryd.prog) 22 5 9 Tryd.underlying22 Tryd.underlying5 Tryd.underlying9 cap3
    have t4 := hs4.text (P := Tryd.prog) 22 5 9 Tryd.underlying22 Tryd.underlying5 Tryd.underlying9 cap4
    have HB4 := Lib.hid (HB3.out.trans (hb4.mono HB3.out.size))
    have hee : (er == er) = true := by simp
    clear hs4 hb4
    go_wp2_with fail
    go_ret
    exact ⟨by simp, HB4.out⟩
end Go.Proofs.YtpcbaokplifcoaaDoor
