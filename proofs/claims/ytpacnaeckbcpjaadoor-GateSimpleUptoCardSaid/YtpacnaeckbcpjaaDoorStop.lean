/- 'lits = append(lits, m.literal(t))' of gate's made, where literal panics: the region draws its order. -/
import Derived.Test.YtpacnaeckbcpjaaDoorMade
namespace Go.Proofs.YtpacnaeckbcpjaaDoor
open Go.RowKit Go.Chalk

structure StopInv (a0 : Act) (W : World) (mb : Nat) (x : Value) (listed : Array Bool) (a : Act) (w : World) : Prop where
  w0 : w = W
  sz : a.tmps.size = a0.tmps.size
  df : a.defers = a0.defers
  far : ∀ t, t < 47 → slot a t = slot a0 t
  l3 : listed.getD 3 false = false
  s48 : listed.getD 1 false = true → slot a 48 = .pointer (some ⟨mb, 0, none⟩)
  s49 : listed.getD 2 false = true → slot a 49 = x

theorem StopInv.put {a0 a : Act} {W w : World} {mb : Nat} {x v : Value} {listed : Array Bool} {i d : Nat} (h : StopInv a0 W mb x listed a w) (hi : i < listed.size) (hd : 47 ≤ d) (hd2 : d < a0.tmps.size) (hi3 : i ≠ 3)
    (h1 : (i = 0 ∧ d = 47) ∨ (i = 1 ∧ d = 48 ∧ v = .pointer (some ⟨mb, 0, none⟩)) ∨ (i = 2 ∧ d = 49 ∧ v = x)) : StopInv a0 W mb x (listed.setIfInBounds i true) (a.put (some d) v) w := by
  obtain ⟨w0, sz, df, far, l3, s48, s49⟩ := h
  have hd' : d < a.tmps.size := by omega
  refine ⟨w0, by simp [Act.put, sz], df, fun t ht => by rw [slot_put hd', if_neg (by omega)]; exact far t ht, by rw [getD_set hi, if_neg (by omega)]; exact l3, ?_, ?_⟩
  · intro h
    rw [getD_set hi] at h
    rw [slot_put hd']
    rcases h1 with ⟨rfl, rfl⟩ | ⟨rfl, rfl, rfl⟩ | ⟨rfl, rfl, rfl⟩
    · rw [if_neg (by omega)]; exact s48 (by simpa using h)
    · rw [if_pos rfl]
    · rw [if_neg (by omega)]; exact s48 (by simpa using h)
  · intro h
    rw [getD_set hi] at h
    rw [slot_put hd']
    rcases h1 with ⟨rfl, rfl⟩ | ⟨rfl, rfl, rfl⟩ | ⟨rfl, rfl, rfl⟩
    · rw [if_neg (by omega)]; exact s49 (by simpa using h)
    · rw [if_neg (by omega)]; exact s49 (by simpa using h)
    · rw [if_pos rfl]

set_option maxRecDepth 100000 in
set_option maxHeartbeats 400000 in
theorem stop_region {id : Nat} {ops : Array Oper} {Q : Exit → Act → World → Prop} {a0 : Act} {W : World} {mb b4 b9 : Nat} {v4 : Value} {k0 k1 k2 : Int} {a1 : Option Addr} {n1 cap1 : Nat} {S : Nat → Prop} (hops : ops.size = 7)
    (p0 : ∃ p, ops[0]? = some ⟨some 47, .load 40 (.tmp 4), 40, p, #[], none⟩)
    (p1 : ∃ p, ops[1]? = some ⟨some 48, .move (.tmp 7), 51, p, #[], none⟩)
    (p2 : ∃ p, ops[2]? = some ⟨some 49, .load 24 (.tmp 9), 24, p, #[], none⟩)
    (p3 : ∃ p, ops[3]? = some ⟨some 50, .call { callee := .value (.func 21), args := #[.tmp 48, .tmp 49], argTypes := #[51, 24] }, 3, p, #[⟨1, .data⟩, ⟨2, .data⟩], none⟩)
    (p4 : ∃ o p, ops[4]? = some ⟨some 51, o, 40, p, #[⟨3, .data⟩], none⟩)
    (p5 : ∃ o p, ops[5]? = some ⟨some 52, o, 40, p, #[⟨0, .data⟩, ⟨4, .data⟩, ⟨3, .chain⟩], none⟩)
    (p6 : ∃ o p, ops[6]? = some ⟨none, o, 0, p, #[⟨5, .data⟩, ⟨5, .chain⟩, ⟨0, .phase⟩, ⟨1, .phase⟩, ⟨2, .phase⟩, ⟨3, .phase⟩, ⟨4, .phase⟩, ⟨5, .phase⟩], none⟩)
    (hsz : 52 < a0.tmps.size) (h4 : slot a0 4 = .pointer (some ⟨b4, 0, none⟩)) (h7 : slot a0 7 = .pointer (some ⟨mb, 0, none⟩)) (h9 : slot a0 9 = .pointer (some ⟨b9, 0, none⟩))
    (c4 : W.cell? ⟨b4, 0, none⟩ = some v4) (y0 : W.cell? ⟨b9, 0, none⟩ = some (.int .i64 k0)) (y1 : W.cell? ⟨b9, 1, none⟩ = some (.int .i64 k1)) (y2 : W.cell? ⟨b9, 2, none⟩ = some (.int .i64 k2)) (y3 : W.cell? ⟨b9, 3, none⟩ = some (.slice a1 n1 cap1))
    (hlit : Calls Tryd.prog 21 #[.pointer (some ⟨mb, 0, none⟩), .agg #[.int .i64 k0, .int .i64 k1, .int .i64 k2, .slice a1 n1 cap1]] W.drew (Stops S W.drew))
    (hQ : ∀ a w', a.defers = a0.defers → (∀ t, t < 47 → slot a t = slot a0 t) → Mod S W.drew w' → Q (.panic [{ v := .iface 57 (.agg #[.int .i64 2]), recovered := false }]) a w') :
    (Code.region id ops true).wp Tryd.prog Q a0 W := by
  refine region_inv (by kernel_rfl) (StopInv a0 W.drew mb (.agg #[.int .i64 k0, .int .i64 k1, .int .i64 k2, .slice a1 n1 cap1])) ?_ ?_ ?_
  · have e : ∀ k, (Array.replicate ops.size false).getD k false = false := fun k => by
      simp only [Array.getD_eq_getD_getElem?, Array.getElem?_replicate]; split <;> rfl
    exact ⟨rfl, rfl, rfl, fun _ _ => rfl, e 3, (fun h => absurd h (by rw [e]; simp)), (fun h => absurd h (by rw [e]; simp))⟩
  · rintro listed a w i R hls hri
    obtain ⟨hi1, hi2, op, hop, hdep⟩ := Go.Chalk.mem_ready hri
    clear hri
    rw [hops] at hls hi1
    have hlt : i < listed.size := by omega
    obtain rfl := R.w0
    have e4 : a.tmps[4]?.getD undef = .pointer (some ⟨b4, 0, none⟩) := (slot_get a 4).trans ((R.far 4 (by omega)).trans h4)
    have e7 : a.tmps[7]?.getD undef = .pointer (some ⟨mb, 0, none⟩) := (slot_get a 7).trans ((R.far 7 (by omega)).trans h7)
    have e9 : a.tmps[9]?.getD undef = .pointer (some ⟨b9, 0, none⟩) := (slot_get a 9).trans ((R.far 9 (by omega)).trans h9)
    have hcs : i = 0 ∨ i = 1 ∨ i = 2 ∨ i = 3 ∨ i = 4 ∨ i = 5 ∨ i = 6 := by omega
    rcases hcs with rfl | rfl | rfl | rfl | rfl | rfl | rfl
    · obtain ⟨p, hp⟩ := p0
      rw [hp] at hop; cases hop
      refine wpOp_of hp rfl ?_
      have hfin := R.put (i := 0) (d := 47) (v := v4) hlt (by omega) (by omega) (by omega) (.inl ⟨rfl, rfl⟩)
      clear hdep R hlit hQ hp
      unfold Oper.wp
      go_simp
      exact hfin
    · obtain ⟨p, hp⟩ := p1
      rw [hp] at hop; cases hop
      refine wpOp_of hp rfl ?_
      have hfin := R.put (i := 1) (d := 48) hlt (by omega) (by omega) (by omega) (.inr (.inl ⟨rfl, rfl, rfl⟩))
      clear hdep R hlit hQ hp
      unfold Oper.wp
      go_simp
      exact hfin
    · obtain ⟨p, hp⟩ := p2
      rw [hp] at hop; cases hop
      refine wpOp_of hp rfl ?_
      have hfin := R.put (i := 2) (d := 49) hlt (by omega) (by omega) (by omega) (.inr (.inr ⟨rfl, rfl, rfl⟩))
      clear hdep R hlit hQ hp
      unfold Oper.wp
      go_simp
      exact hfin
    · obtain ⟨p, hp⟩ := p3
      rw [hp] at hop; cases hop
      refine wpOp_of hp rfl ?_
      have d1 : listed.getD 1 false = true := hdep ⟨1, .data⟩ (by simp) rfl
      have d2 : listed.getD 2 false = true := hdep ⟨2, .data⟩ (by simp) rfl
      have e48 : a.tmps[48]?.getD undef = .pointer (some ⟨mb, 0, none⟩) := (slot_get a 48).trans (R.s48 d1)
      have e49 : a.tmps[49]?.getD undef = .agg #[.int .i64 k0, .int .i64 k1, .int .i64 k2, .slice a1 n1 cap1] := (slot_get a 49).trans (R.s49 d2)
      have HLT := Lib.hid hlit
      have HQ := Lib.hid hQ
      have HRD := Lib.hid R.df
      have HRF := Lib.hid R.far
      clear hdep R hp hlit hQ
      unfold Oper.wp
      go_simp
      refine HLT.out.mono ?_
      rintro e w' ⟨rfl, hm⟩
      exact HQ.out a w' HRD.out HRF.out hm
    · obtain ⟨o, p, hp⟩ := p4
      rw [hp] at hop; cases hop
      have := hdep ⟨3, .data⟩ (by simp) rfl
      rw [R.l3] at this; cases this
    · obtain ⟨o, p, hp⟩ := p5
      rw [hp] at hop; cases hop
      have := hdep ⟨3, .chain⟩ (by simp) rfl
      rw [R.l3] at this; cases this
    · obtain ⟨o, p, hp⟩ := p6
      rw [hp] at hop; cases hop
      have := hdep ⟨3, .phase⟩ (by simp) rfl
      rw [R.l3] at this; cases this
  · rintro listed a w R hls hr
    exfalso
    have l1 : listed.getD 1 false = true := by
      obtain ⟨p, hp⟩ := p1
      exact ready_nil hr hp hls (by simp)
    have l2 : listed.getD 2 false = true := by
      obtain ⟨p, hp⟩ := p2
      exact ready_nil hr hp hls (by simp)
    have l3 : listed.getD 3 false = true := by
      obtain ⟨p, hp⟩ := p3
      have m1 : listed[1]?.getD false = true := by simpa using l1
      have m2 : listed[2]?.getD false = true := by simpa using l2
      exact ready_nil hr hp hls (by simp [Region.binds, m1, m2])
    rw [R.l3] at l3; cases l3

end Go.Proofs.YtpacnaeckbcpjaaDoor
