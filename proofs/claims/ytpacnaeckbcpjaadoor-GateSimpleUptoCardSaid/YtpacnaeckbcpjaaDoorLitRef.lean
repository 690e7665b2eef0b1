/- The reference's (*Maker).literal: it encodes a well-formed tree. -/
import Derived.Test.YtpacnaeckbcpjaaDoorSums
import Derived.Deep.RegionLaw
import Derived.Deep.AppendLies
namespace Go.Proofs.YtpacnaeckbcpjaaDoor
open Go.RowKit Go.Chalk

theorem lin_info : (Tryd.prog.info? 42).map (fun i => (i.zero, i.size, i.bytes)) = some (some (.agg #[.slice none 0 0, .slice none 0 0, .int .i64 0]), 3, 56) := by kernel_rfl

/-- sums' answer as the source of an append. -/
def SumsSrc (w : World) (x k : Int) (xs : List Int) (e : Ending) (w3 : World) : Prop :=
  ∃ b3 o3 cap3 n3 cs3, e = .returned (.slice (some ⟨b3, o3, none⟩) n3 cap3) ∧ n3 = (sumsF x k xs).length ∧ cs3.length = n3 * 3 ∧ (∀ j u, cs3[j]? = some u → w3.cell? ((⟨b3, o3, none⟩ : Addr).add j) = some u) ∧ (∀ u ∈ cs3, u.oneCell' = true) ∧ 0 < n3 ∧ n3 ≤ 2 ∧
    DsAt w3 (fun k => w.heap.size ≤ k ∧ k < w3.heap.size) ((sumsF x k xs).map Lin.toD) cs3 ∧ Below w.heap.size w w3
end Go.Proofs.YtpacnaeckbcpjaaDoor
