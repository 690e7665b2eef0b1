/- Slices of bools; the value of a literal and of a constraint. -/
import Derived.Test.YtpacnaeckbcpjaaDoorLinCheck
import Derived.WalkLawsBesides
namespace Go.Chalk
open Go.RowKit

def dbools (xs : List Bool) : List D := xs.map D.bool
@[simp] theorem dbools_length (xs : List Bool) : (dbools xs).length = xs.length := by simp [dbools]
theorem dbools_append (xs ys : List Bool) : dbools (xs ++ ys) = dbools xs ++ dbools ys := by simp [dbools]
theorem dbools_widths : ∀ xs : List Bool, widths (dbools xs) = xs.length
  | [] => rfl
  | x :: r => by
    have := dbools_widths r
    simp only [dbools, List.map_cons, widths, D.width] at this ⊢
    simp only [List.length_cons]; omega
theorem dbools_bulks : ∀ xs : List Bool, xs.length ≤ bulks (dbools xs)
  | [] => by simp
  | x :: r => by have := dbools_bulks r; simp only [dbools, List.map_cons, bulks, D.bulk, List.length_cons] at this ⊢; omega
theorem DAt.open_bools {w : World} {F : Nat → Prop} {xs : List Bool} {cs : List Value} (h : DAt w F (.sl (dbools xs)) cs) :
    ∃ a b o cap, cs = [.slice a xs.length cap] ∧ SlAt F a b o xs.length ∧ xs.length ≤ cap ∧ cap ≤ maxLen ∧ ∀ (i : Nat) (h : i < xs.length), w.cell? ⟨b, o + i, none⟩ = some (.bool xs[i]) := by
  rw [DAt] at h
  obtain ⟨a, b, o, cap, rfl, h1, h2, h3, h4⟩ := h
  rw [dbools_length] at h1 h2
  refine ⟨a, b, o, cap, by rw [dbools_length], h1, h2, h3, fun i hi => ?_⟩
  obtain ⟨cs, g1, g2⟩ := h4.get (sz := 1) (fun x hx => by simp only [dbools, List.mem_map] at hx; obtain ⟨y, _, rfl⟩ := hx; rfl) i (by simpa using hi)
  have e : (dbools xs)[i]'(by simpa using hi) = .bool xs[i] := by simp [dbools]
  rw [e, DAt] at g1
  subst g1
  simpa using g2 0 (by simp)
theorem DsAt.bools {w : World} {F : Nat → Prop} : ∀ {xs : List Bool}, DsAt w F (dbools xs) (xs.map Value.bool)
  | [] => by rw [dbools, List.map_nil, DsAt]; rfl
  | x :: r => by rw [dbools, List.map_cons, DsAt]; exact ⟨[.bool x], r.map Value.bool, rfl, by rw [DAt], DsAt.bools⟩

/-- The value of variable n. -/
def valB (a : List Bool) (n : Nat) : Bool := a.getD n false
/-- The value of a literal. -/
def truthF (x : Int) (a : List Bool) : Bool := if x < 0 then !valB a (-x).toNat else valB a x.toNat
theorem truthF_neg (x : Int) (h : 0 < x) (a : List Bool) : truthF (-x) a = !truthF x a := by
  unfold truthF
  rw [if_pos (by omega), if_neg (by omega)]; simp
/-- The sum of the coefficients whose literals are true. -/
def sumB (a : List Bool) : List Int → List Int → Int
  | c :: cs, l :: ls => (if truthF l a then c else 0) + sumB a cs ls
  | _, _ => 0
/-- The value of a constraint. -/
def linV (s : Lin) (a : List Bool) : Bool := decide (s.least ≤ sumB a s.c s.l)
/-- All constraints hold. -/
def linsV (l : List Lin) (a : List Bool) : Bool := l.all (linV · a)

theorem sumB_snoc (a : List Bool) : ∀ (cs ls : List Int) (c l : Int), cs.length = ls.length → sumB a (cs ++ [c]) (ls ++ [l]) = sumB a cs ls + if truthF l a then c else 0
  | [], [], c, l, _ => by simp [sumB]
  | x :: cs, y :: ls, c, l, h => by
    simp only [List.cons_append, sumB]
    rw [sumB_snoc a cs ls c l (by simpa using h)]; omega
theorem sumB_bound (a : List Bool) : ∀ (cs ls : List Int), (∀ c ∈ cs, -1099511627776 ≤ c ∧ c ≤ 1099511627776) → -1099511627776 * (cs.length : Int) ≤ sumB a cs ls ∧ sumB a cs ls ≤ 1099511627776 * (cs.length : Int)
  | [], _, _ => by simp [sumB]
  | c :: cs, [], h => by simp only [sumB, List.length_cons]; constructor <;> omega
  | c :: cs, l :: ls, h => by
    have h1 := sumB_bound a cs ls (fun x hx => h x (by simp [hx]))
    have h2 := h c (by simp)
    simp only [sumB, List.length_cons]
    split <;> constructor <;> omega

end Go.Chalk
namespace Go.Proofs.YtpacnaeckbcpjaaDoor
open Go.RowKit Go.Chalk

theorem valB_lt {a : List Bool} {n : Nat} (h : n < a.length) : valB a n = a[n] := by unfold valB; simp [h]
theorem valB_ge {a : List Bool} {n : Nat} (h : ¬ n < a.length) : valB a n = false := by unfold valB; rw [List.getD_eq_getElem?_getD, List.getElem?_eq_none (by omega)]; rfl

set_option maxRecDepth 100000 in
set_option maxHeartbeats 400000 in
theorem truth_pos (x : Int) (xs : List Bool) (v : Value) (w : World) (hx : 0 ≤ x ∧ x ≤ 1000000000) (hd : DAt w (· < w.heap.size) (.sl (dbools xs)) [v]) :
    Calls Tryd.prog 10 #[.int .i64 x, v] w fun e w' => e = .returned (.bool (truthF x xs)) ∧ w = w' := by
  obtain ⟨a, b, o, cap, he, hs, hl, hm, hc⟩ := hd.open_bools
  simp only [List.cons.injEq, and_true] at he
  subst he
  obtain ⟨n, rfl⟩ := Int.eq_ofNat_of_zero_le hx.1
  have ht : truthF (n : Int) xs = valB xs n := by unfold truthF; rw [if_neg (by omega)]; simp
  rw [ht]
  unfold maxLen at hm
  by_cases hlt : n < xs.length
  · obtain ⟨rfl, hbl⟩ := hs (by omega)
    rw [valB_lt hlt]
    have e0 := hc n hlt
    have e1 : decide ((n : Int) < (xs.length : Int)) = true := by simp; omega
    have e2 : decide (n < xs.length) = true := by simp; omega
    have e3 : ¬ ((n : Int) < 0) := by omega
    clear hc hs hd ht
    go_enter Tryd.func10, Tryd.ntmps10
    go_wp2_with fail
    go_ret
    exact ⟨rfl, rfl⟩
  · rw [valB_ge hlt]
    have e1 : decide ((n : Int) < (xs.length : Int)) = false := by simp; omega
    have e2 : decide (n < xs.length) = false := by simp; omega
    have e3 : ¬ ((n : Int) < 0) := by omega
    clear hc hs hd ht
    go_enter Tryd.func10, Tryd.ntmps10
    go_wp2_with fail
    go_ret
    exact ⟨rfl, rfl⟩

set_option maxRecDepth 100000 in
set_option maxHeartbeats 400000 in
theorem truth_any (x : Int) (xs : List Bool) (v : Value) (w : World) (hx : -1000000000 ≤ x ∧ x ≤ 1000000000) (hd : DAt w (· < w.heap.size) (.sl (dbools xs)) [v]) :
    Calls Tryd.prog 10 #[.int .i64 x, v] w fun e w' => e = .returned (.bool (truthF x xs)) ∧ w = w' := by
  by_cases h0 : 0 ≤ x
  · exact truth_pos x xs v w ⟨h0, hx.2⟩ hd
  · have ht : truthF x xs = !truthF (-x) xs := by have := truthF_neg (-x) (by omega) xs; rwa [Int.neg_neg] at this
    rw [ht]
    have HD := Lib.hid (truth_pos (-x) xs v w (by omega) hd)
    have h0' : x < 0 := by omega
    clear hd ht h0
    go_enter Tryd.func10, Tryd.ntmps10
    go_wp2_with fail
    refine HD.out.mono ?_
    rintro e w' ⟨rfl, rfl⟩
    go_wp2_with fail
    go_ret
    exact ⟨rfl, rfl⟩

end Go.Proofs.YtpacnaeckbcpjaaDoor
