/- GateMeans: for every ground formula and assignment, where what comes in is of bulk at most 1048576, the law returns true: each assignment has just one extension that satisfies the constraints, and the literal has the value of the formula. -/
import Derived.Test.YtpacnaeckbcpjaaDoorLive
import Derived.Test.YtpacnaeckbcpjaaDoorMeansLaw
import Derived.Test.YtpacnaeckbcpjaaDoorBoolArg
import Derived.Test.YtpacnaeckbcpjaaDoorAppendSrc
namespace Go.Proofs.YtpacnaeckbcpjaaDoor
open Go.ChangeShapes Go.WideShapes Go.ChangeAt Go.RowKit Go.Chalk

theorem bool_info : (Tryd.prog.info? 4).map (fun i => (i.zero, i.size, i.bytes)) = some (some (.bool false), 1, 1) := by kernel_rfl

theorem bits_small : ∀ m : Fin 512, (bits .and .i64 ((m.val : Nat) : Int) 1 == 1) = decide (m.val % 2 = 1) := by decide +kernel
theorem bits_one (n j : Nat) (h : n < 512) : (bits .and .i64 ((n : Int) / 2 ^ j) 1 == 1) = decide (n / 2 ^ j % 2 = 1) := by
  have hlt : n / 2 ^ j < 512 := Nat.lt_of_le_of_lt (Nat.div_le_self _ _) h
  have e : ((n : Int) / 2 ^ j) = ((n / 2 ^ j : Nat) : Int) := by simp
  rw [e]
  exact bits_small ⟨n / 2 ^ j, hlt⟩
/-- The first m bits of n. -/
def bitsF (n m : Nat) : List Bool := (List.range m).map (fun i => decide (n / 2 ^ i % 2 = 1))
theorem bitsF_length (n m : Nat) : (bitsF n m).length = m := by simp [bitsF]
theorem bitsF_succ (n m : Nat) : bitsF n (m + 1) = bitsF n m ++ [decide (n / 2 ^ m % 2 = 1)] := by simp [bitsF, List.range_succ]
def codeF : List Bool → Nat
  | [] => 0
  | b :: r => (if b then 1 else 0) + 2 * codeF r
theorem codeF_lt : ∀ c : List Bool, codeF c < 2 ^ c.length
  | [] => by simp [codeF]
  | b :: r => by have := codeF_lt r; rw [codeF, List.length_cons, Nat.pow_succ]; split <;> omega
theorem bitsF_zero (n m : Nat) : bitsF n (m + 1) = decide (n % 2 = 1) :: bitsF (n / 2) m := by
  unfold bitsF
  rw [List.range_succ_eq_map, List.map_cons, List.map_map]
  congr 1
  · simp
  · apply List.map_congr_left
    intro i _
    have e : n / 2 ^ (i + 1) = n / 2 / 2 ^ i := by rw [Nat.div_div_eq_div_mul, Nat.pow_succ, Nat.mul_comm]
    show decide (n / 2 ^ (i + 1) % 2 = 1) = _
    rw [e]
theorem bitsF_iff : ∀ (c : List Bool) (n : Nat), n < 2 ^ c.length → (bitsF n c.length = c ↔ n = codeF c)
  | [], n, h => by simp [bitsF, codeF] at h ⊢; omega
  | b :: r, n, h => by
    rw [List.length_cons] at h ⊢
    rw [bitsF_zero, codeF, List.cons.injEq, bitsF_iff r (n / 2) (by rw [Nat.pow_succ] at h; omega)]
    cases b
    · simp; omega
    · simp; omega

theorem own_read2 {w : World} {F : Nat → Prop} {e : TypeId} {sz : Nat} {v : Value} {r : Option Nat} {xs : List D} (h : Chalk.Own w F e sz v r xs) (hw : widths xs = xs.length * sz) : DAt w (· < w.heap.size) (.sl xs) [v] :=
  h.read (fun k hk => h.lt k hk) (fun _ hk => h.row_lt hk) hw
theorem means_below {w3 w4 : World} {o : Obj} (h : Chalk.Mod (fun k => some w3.heap.size = some k) (w3.alloc o).drew w4) : Below w3.heap.size w3 w4 :=
  (below_undrew ((Below.refl w3.heap.size w3).alloc (Nat.le_refl _) o)).trans (h.below (by show w3.heap.size ≤ (w3.alloc o).heap.size; simp) (fun k hk => by simp at hk; omega))

end Go.Proofs.YtpacnaeckbcpjaaDoor
