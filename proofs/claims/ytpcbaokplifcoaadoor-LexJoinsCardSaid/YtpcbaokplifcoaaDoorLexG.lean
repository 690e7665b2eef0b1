/- The reference's Same and Alike on lists that are the same. -/
import Derived.Test.YtpcbaokplifcoaaDoorLexF
namespace Go.Chalk
open Go.RowKit Go.Proofs.YtpcbaokplifcoaaDoor

theorem below_dN {B : Nat} {w w' : World} (h : Below B w w') (n : Nat) : Below B w (w'.drewN n) := ⟨h.os, h.tape, h.output, h.size, h.block⟩
theorem DsAt.toks_inv {w : World} {F : Nat → Prop} : ∀ {ts : List Tok} {cs : List Value}, DsAt w F (ts.map Tok.toD) cs → ∀ i (h : i < ts.length), cs[i * 3]? = some (.int .i64 ts[i].kind) ∧ cs[i * 3 + 1]? = some (.string ⟨ts[i].text.toArray⟩) ∧ cs[i * 3 + 2]? = some (.int .i64 (ts[i].at_ : Int))
  | [], _, _ => fun i h => by simp at h
  | t :: r, cs, h => by
    rw [List.map_cons, DsAt] at h
    obtain ⟨c1, c2, rfl, h1, h2⟩ := h
    rw [Tok.toD, DAt, DsAt] at h1
    obtain ⟨d1, e1, rfl, h3, h4⟩ := h1
    rw [DAt] at h3
    obtain ⟨rfl, _⟩ := h3
    rw [DsAt] at h4
    obtain ⟨d2, e2, rfl, h5, h6⟩ := h4
    rw [DAt] at h5
    obtain ⟨rfl, _⟩ := h5
    rw [DsAt] at h6
    obtain ⟨d3, e3, rfl, h7, h8⟩ := h6
    rw [DAt] at h7
    obtain ⟨rfl, _⟩ := h7
    rw [DsAt] at h8
    subst h8
    intro i hi
    cases i with
    | zero => simp
    | succ i =>
      have := DsAt.toks_inv (ts := r) h2 i (by simpa using hi)
      have e : ∀ k, ([Value.int .i64 t.kind] ++ ([Value.string ⟨t.text.toArray⟩] ++ ([Value.int .i64 (t.at_ : Int)] ++ [])) ++ c2)[k + 3]? = c2[k]? := fun k => by simp
      rw [show (i + 1) * 3 = i * 3 + 3 from by omega, show i * 3 + 3 + 1 = i * 3 + 1 + 3 from by omega, show i * 3 + 3 + 2 = i * 3 + 2 + 3 from by omega, e, e, e]
      simpa using this
/-- The places of tokens. -/
def placesF (ts : List Tok) (i : Nat) : Int := ((ts.map Tok.at_).getD i 0 : Nat)
theorem placesF_get {ts : List Tok} {i : Nat} (h : i < ts.length) : placesF ts i = (ts[i].at_ : Int) := by simp [placesF, List.getD, h]
/-- Tokens of the call's own, read. -/
theorem OwnT.read {w : World} {e : TypeId} {v : Value} {q : Option Nat} {ts : List Tok} (h : OwnT w e v q ts) : ∃ a b o cap, v = .slice a ts.length cap ∧ TksV w w.heap.size ts (placesF ts) a b o ∧ ts.length ≤ cap := by
  obtain ⟨cs, h1, h2⟩ := h.row
  have h1' := h1
  obtain ⟨hlen, h3⟩ := h1
  rcases h3 with ⟨rfl, h0⟩ | ⟨g, cap, cur, rfl, _, hh, hc1, hc2, hc3, hc4⟩
  · obtain rfl : ts = [] := List.length_eq_zero_iff.1 h0
    exact ⟨none, 0, 0, 0, rfl, ⟨fun h => by simp at h, fun i hi => by simp at hi⟩, Nat.le_refl _⟩
  · refine ⟨_, g, 0, cap, rfl, ⟨fun _ => ⟨rfl, (Array.getElem?_eq_some_iff.1 hh).1⟩, fun i hi => ?_⟩, hc1⟩
    obtain ⟨k0, k1, k2⟩ := DsAt.toks_inv h2 i hi
    have hc : ∀ j u, cs[j]? = some u → w.cell? ⟨g, 0 + j, none⟩ = some u := fun j u hu => by
      have hj := (List.getElem?_eq_some_iff.1 hu).1
      have := h1'.cellAt (g := g) (cap := cap) j (by rw [← hlen]; exact hj)
      rw [Nat.zero_add, this, hu]
    rw [placesF_get hi]
    exact ⟨hc _ _ k0, by simpa using hc _ _ k1, by simpa using hc _ _ k2⟩
/-- Lists that differ in places alone. -/
def alikeT (ts us : List Tok) : Prop := ts.length = us.length ∧ ∀ i (h : i < ts.length) (h' : i < us.length), ts[i].kind = us[i].kind ∧ ts[i].text = us[i].text
theorem TksV.alike {w : World} {B : Nat} {ts us : List Tok} {zs : Nat → Int} {a : Option Addr} {b o : Nat} (h : TksV w B us zs a b o) (hal : alikeT ts us) : TksV w B ts zs a b o := by
  obtain ⟨hl, hal⟩ := hal
  refine ⟨by rw [hl]; exact h.1, fun i hi => ?_⟩
  obtain ⟨e1, e2⟩ := hal i hi (by omega)
  rw [e1, e2]
  exact h.2 i (by omega)
end Go.Chalk
namespace Go.Proofs.YtpcbaokplifcoaaDoor
open Go.RowKit Go.Chalk

set_option maxRecDepth 100000 in
set_option maxHeartbeats 1000000 in
theorem same_any (ts : List Tok) (zs : Nat → Int) (a a' : Option Addr) (b o cap b' o' cap' : Nat) (w : World) (hv : TksV w w.heap.size ts zs a b o) (hv' : TksV w w.heap.size ts zs a' b' o') (hmax : ts.length ≤ 1000000) :
    Calls Tryd.prog 12 #[.slice a ts.length cap, .slice a' ts.length cap'] w fun e w' => e = .returned (.bool true) ∧ Below w.heap.size w w' := by
  have HV := Lib.hid hv
  have HV' := Lib.hid hv'
  clear hv hv'
  have hne : ((ts.length : Int) != (ts.length : Int)) = false := by simp
  generalize hn : ts.length = n at *
  have HN := Lib.hid hn
  clear hn
  go_enter Tryd.func12, Tryd.ntmps12
  go_wp2_with fail
  go_loopw [13, 5] (fun i _ wr => ∃ j : Nat, i = .int .i64 j ∧ j ≤ n ∧ Below w.heap.size w wr) (fun i _ _ => n - (intOf i).toNat)
  case atStart => exact ⟨0, rfl, Nat.zero_le _, Below.refl _ _⟩
  case round =>
    obtain ⟨j, rfl, hj, hb⟩ := hrel
    by_cases hlt : j < n
    · have hjl : j < ts.length := by rw [HN.out]; exact hlt
      obtain ⟨rfl, hbl⟩ := HV.out.1 (by omega)
      obtain ⟨rfl, hbl'⟩ := HV'.out.1 (by omega)
      obtain ⟨y0, y1, y2⟩ := (HV.out.below hb hb.size).2 j hjl
      obtain ⟨z0, z1, z2⟩ := (HV'.out.below hb hb.size).2 j hjl
      generalize ts[j].kind = kd at *
      generalize (⟨ts[j].text.toArray⟩ : ByteArray) = tx at *
      generalize zs j = zz at *
      have HB := Lib.hid hb
      clear hb
      go_wp2_with fail
      go_quiet (fail)
      go_wp2_with fail
      exact ⟨⟨j + 1, by go_num, by omega, below_dN HB.out _⟩, by simp [intOf]; omega⟩
    · go_wp2_with fail
      go_ret
      exact ⟨rfl, hb⟩

set_option maxRecDepth 100000 in
set_option maxHeartbeats 1000000 in
theorem alike_any (ts : List Tok) (zs ys : Nat → Int) (a a' : Option Addr) (b o cap b' o' cap' : Nat) (w : World) (hv : TksV w w.heap.size ts zs a b o) (hv' : TksV w w.heap.size ts ys a' b' o') (hmax : ts.length ≤ 1000000) :
    Calls Tryd.prog 16 #[.slice a ts.length cap, .slice a' ts.length cap'] w fun e w' => e = .returned (.bool true) ∧ Below w.heap.size w w' := by
  have HV := Lib.hid hv
  have HV' := Lib.hid hv'
  clear hv hv'
  have hne : ((ts.length : Int) != (ts.length : Int)) = false := by simp
  generalize hn : ts.length = n at *
  have HN := Lib.hid hn
  clear hn
  go_enter Tryd.func16, Tryd.ntmps16
  go_wp2_with fail
  go_loopw [13, 5] (fun i _ wr => ∃ j : Nat, i = .int .i64 j ∧ j ≤ n ∧ Below w.heap.size w wr) (fun i _ _ => n - (intOf i).toNat)
  case atStart => exact ⟨0, rfl, Nat.zero_le _, Below.refl _ _⟩
  case round =>
    obtain ⟨j, rfl, hj, hb⟩ := hrel
    by_cases hlt : j < n
    · have hjl : j < ts.length := by rw [HN.out]; exact hlt
      obtain ⟨rfl, hbl⟩ := HV.out.1 (by omega)
      obtain ⟨rfl, hbl'⟩ := HV'.out.1 (by omega)
      obtain ⟨y0, y1, y2⟩ := (HV.out.below hb hb.size).2 j hjl
      obtain ⟨z0, z1, z2⟩ := (HV'.out.below hb hb.size).2 j hjl
      generalize ts[j].kind = kd at *
      generalize (⟨ts[j].text.toArray⟩ : ByteArray) = tx at *
      have hk : (kd != kd) = false := by simp
      have HB := Lib.hid hb
      clear hb y2 z2
      go_wp2_with fail
      go_quiet (fail)
      go_wp2_with fail
      exact ⟨⟨j + 1, by go_num, by omega, below_dN HB.out _⟩, by simp [intOf]; omega⟩
    · go_wp2_with fail
      go_ret
      exact ⟨rfl, hb⟩
end Go.Proofs.YtpcbaokplifcoaaDoor
