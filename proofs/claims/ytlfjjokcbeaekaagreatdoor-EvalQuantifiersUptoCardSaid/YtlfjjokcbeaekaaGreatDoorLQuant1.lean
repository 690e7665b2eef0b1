/- Joined texts: LawQuant2. -/
import Derived.Test.YtlfjjokcbeaekaaGreatDoorB07

/- EvalQuantifiers, of the functions. -/
namespace Go.Chalk
def partB (s : Schl) (l : List Plc) (env : List Ev) (f : Frm) (b : Bnd) (i : Nat) : Bool := holdsF s l (env ++ [⟨b.name, b.sort, (i : Int)⟩]) f
def partN (s : Schl) (l : List Plc) (env : List Ev) (f : Frm) (b : Bnd) (j : Nat) : Nat := (List.range j).countP (partB s l env f b)
theorem partN_succ (s : Schl) (l : List Plc) (env : List Ev) (f : Frm) (b : Bnd) (j : Nat) : partN s l env f b (j + 1) = partN s l env f b j + (if partB s l env f b j then 1 else 0) := by
  unfold partN
  rw [List.range_succ, List.countP_append, List.countP_singleton]
theorem partN_le (s : Schl) (l : List Plc) (env : List Ev) (f : Frm) (b : Bnd) (j : Nat) : partN s l env f b j ≤ j := by
  have := List.countP_le_length (p := partB s l env f b) (l := List.range j)
  rwa [List.length_range] at this
theorem quant_plain (s : Schl) (l : List Plc) (env : List Ev) (f : Frm) (b : Bnd) (n : Int) (L M A O : Bool × Int) (hL : L = evHolds s l env (quFrm 16 n b f)) (hM : M = evHolds s l env (quFrm 17 n b f)) (hA : A = evHolds s l env (quFrm 14 0 b f)) (hO : O = evHolds s l env (quFrm 15 0 b f)) :
    (L.2 ≠ 0 → L.1 = false) ∧ (L.2 = 0 → L = (decide (n ≤ partN s l env f b (schCount s b.sort)), 0) ∧ M = (decide (((partN s l env f b (schCount s b.sort) : Nat) : Int) ≤ n), 0) ∧ A = (decide (((partN s l env f b (schCount s b.sort) : Nat) : Int) = (schCount s b.sort : Int)), 0) ∧ O = (decide ((0 : Int) < ((partN s l env f b (schCount s b.sort) : Nat) : Int)), 0) ∧
      ∀ i, i < schCount s b.sort → evHolds s l (env ++ [⟨b.name, b.sort, (i : Int)⟩]) f = (partB s l env f b i, 0)) := by
  subst hL hM hA hO
  refine ⟨fun h => evHolds_false h, fun h => ?_⟩
  have k := evHolds_ok.1 h
  have HP := fun i hi => k.part i hi
  have e : ∀ kind n, kind = 14 ∨ kind = 15 ∨ kind = 16 ∨ kind = 17 → holdsF s l env (quFrm kind n b f) = quantHolds kind n (partN s l env f b (schCount s b.sort)) (schCount s b.sort) := fun kind n hk => quFrm_val hk
  rw [evHolds_val k, evHolds_val (k.qu (.inr (.inr (.inr rfl))) (.inl ⟨rfl, rfl⟩)), evHolds_val (k.qu (kind := 14) (m := 0) (.inl rfl) (.inr rfl)), evHolds_val (k.qu (kind := 15) (m := 0) (.inr (.inl rfl)) (.inr rfl))]
  rw [e 16 n (by simp), e 17 n (by simp), e 14 0 (by simp), e 15 0 (by simp)]
  have q16 : ∀ y c, quantHolds 16 n y c = decide (n ≤ (y : Int)) := fun _ _ => rfl
  have q17 : ∀ y c, quantHolds 17 n y c = decide ((y : Int) ≤ n) := fun _ _ => rfl
  have q14 : ∀ y c, quantHolds 14 0 y c = (y == c) := fun _ _ => rfl
  have q15 : ∀ y c, quantHolds 15 0 y c = decide (0 < y) := fun _ _ => rfl
  rw [q16, q17, q14, q15]
  generalize partN s l env f b (schCount s b.sort) = kk
  generalize schCount s b.sort = c at HP ⊢
  refine ⟨rfl, rfl, ?_, ?_, fun i hi => by rw [evHolds_val (HP i hi)]; rfl⟩
  · congr 1
    rw [Bool.eq_iff_iff, beq_iff_eq, decide_eq_true_eq]; omega
  · congr 1
    rw [Bool.eq_iff_iff, decide_eq_true_eq, decide_eq_true_eq]; omega
end Go.Chalk
