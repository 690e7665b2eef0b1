/- The reference's Gates. -/
import Derived.Test.YtpacnaeckbcpjaaDoorLitRef
import Derived.Test.YtpacnaeckbcpjaaDoorFlatRef
import Derived.Test.YtpacnaeckbcpjaaDoorMay
import Derived.Deep.QuietTactic
import Derived.BigQuiet
namespace Go.Proofs.YtpacnaeckbcpjaaDoor
open Go.RowKit Go.Chalk

/-- Four results: a number, a slice of constraints in new memory, a number, an error. -/
def GatesPost (w : World) (r : Int × List Lin × Int × Int) (e : Ending) (w' : World) : Prop :=
  ∃ v, e = .returned (.tuple #[.int .i64 r.1, v, .int .i64 r.2.2.1, .int .i64 r.2.2.2]) ∧ NewAt w w' (.sl (r.2.1.map Lin.toD)) [v] ∧ Below w.heap.size w w'
theorem newAt_nil (w w' : World) : NewAt w w' (.sl (([] : List Lin).map Lin.toD)) [.slice none 0 0] :=
  DAt.slice (xs := []) (b := 0) (o := 0) (a := none) (fun h => by simp at h) (Nat.le_refl _) (Nat.zero_le _) (by rw [RowAt]; trivial)
theorem GatesPost.err {w w' : World} {e : Int} (hb : Below w.heap.size w w') : GatesPost w (0, [], 0, e) (.returned (.tuple #[.int .i64 0, .slice none 0 0, .int .i64 0, .int .i64 e])) w' :=
  ⟨_, rfl, newAt_nil w w', hb⟩

theorem gatesF_arg {t : Tr} {next : Int} (h : next < 1 ∨ 65537 < next) : gatesF t next = (0, [], 0, 1) := by unfold gatesF; rw [if_pos h]
theorem gatesF_check {t : Tr} {next : Int} (h : ¬ (next < 1 ∨ 65537 < next)) (hc : checkE t (next - 1) ≠ 0) : gatesF t next = (0, [], 0, checkE t (next - 1)) := by unfold gatesF; rw [if_neg h, if_pos hc]
theorem gatesF_wide {t : Tr} {next : Int} (h : ¬ (next < 1 ∨ 65537 < next)) (hc : checkE t (next - 1) = 0) (hw : wideB t = true) : gatesF t next = (0, [], 0, 2) := by unfold gatesF; rw [if_neg h, if_neg (by simp [hc]), if_pos hw]
theorem gatesF_bound {t : Tr} {next : Int} (h : ¬ (next < 1 ∨ 65537 < next)) (hc : checkE t (next - 1) = 0) (hw : wideB t = false) (hb : 65537 < (litF t next).2.2) : gatesF t next = (0, [], 0, 2) := by unfold gatesF; rw [if_neg h, if_neg (by simp [hc]), if_neg (by simp [hw]), if_pos hb]
theorem gatesF_ok {t : Tr} {next : Int} (h : ¬ (next < 1 ∨ 65537 < next)) (hc : checkE t (next - 1) = 0) (hw : wideB t = false) (hb : ¬ 65537 < (litF t next).2.2) : gatesF t next = ((litF t next).1, (litF t next).2.1, (litF t next).2.2, 0) := by unfold gatesF; rw [if_neg h, if_neg (by simp [hc]), if_neg (by simp [hw]), if_neg hb]

/-- The builder's slice, read. -/
theorem MkAt.read {w w' : World} {G : Nat → Prop} {mb : Nat} {tm tl : TypeId} {ex : List Value} {v : Value} {nx : Int} {ls : List Lin} {r : Option Nat} (h : MkAt w' G mb tm tl ex v nx ls r) (hG : ∀ k, G k → w.heap.size ≤ k) : NewAt w w' (.sl (ls.map Lin.toD)) [v] := by
  obtain ⟨h1, ⟨F, h2, h3⟩, h4, h5⟩ := h
  exact h2.read (fun k hk => ⟨hG k (h3 k hk).1, h5 k (h3 k hk).1⟩) (fun k hk => ⟨hG k (h4 k hk).1, h5 k (h4 k hk).1⟩) (by rw [lins_widths, List.length_map])

end Go.Proofs.YtpacnaeckbcpjaaDoor
