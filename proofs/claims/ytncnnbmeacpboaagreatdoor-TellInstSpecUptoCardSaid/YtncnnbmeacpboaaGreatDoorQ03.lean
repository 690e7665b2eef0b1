/- Parts of the proof. -/
import Derived.Deep.AppendLies
import Derived.WalkKit
set_option linter.unusedVariables false
set_option linter.unusedSimpArgs false
namespace Go.aa
open Go.RowKit
section
variable {P:Program} (w:World)
theorem tY(t ty e:TypeId)(i:TypeInfo)(ht:P.underlying t=some (.slice e))(hi:P.info? e=some i)(b a:Option Addr)(n c k:Nat)(hn:n<=c):
  (Builtin.append_ #[t,t] ty #[.slice b n c,.slice a 0 k]).run P w=.ok (.slice b n c) w:=by
 unfold Builtin.append_;cases b<;>cases a<;>simp[run_underlying ht,sizeOf,typeInfo,hi,Builtin.lenOf,Builtin.firstCells,loadCells,loadCellsFrom,storeCells,hn]
end
end Go.aa
