/- Joined texts: Append0. -/
import Derived.Deep.AppendLies
import Derived.WalkKit

/- append of nothing. -/
namespace Go.Chalk
open Go.RowKit
section
variable {P : Program} (w : World)
theorem run_append_none (t ty e : TypeId) (i : TypeInfo) (ht : P.underlying t = some (.slice e)) (hi : P.info? e = some i) (b a : Option Addr) (n c k : Nat) (hn : n ≤ c) :
    (Builtin.append_ #[t, t] ty #[.slice b n c, .slice a 0 k]).run P w = .ok (.slice b n c) w := by
  unfold Builtin.append_
  cases b <;> cases a <;> simp [run_underlying ht, sizeOf, typeInfo, hi, Builtin.lenOf, Builtin.firstCells, loadCells, loadCellsFrom, storeCells, hn]
theorem wpList_append_none {ops : Array Oper} {rest : List Oper} {o : Oper} {act : Act} {Q : Exit → Act → World → Prop} (hgd : o.guard = none) (s x : Operand) (t : TypeId)
    (ho : o.op = .call { callee := .builtin .append, args := #[s, x], argTypes := #[t, t] }) (e : TypeId) (i : TypeInfo) (ht : P.underlying t = some (.slice e)) (hi : P.info? e = some i) (b a : Option Addr) (n c k : Nat) (hn : n ≤ c) (hs : act.eval s = .slice b n c) (hx : act.eval x = .slice a 0 k)
    (h : wpList P ops Q rest (act.put o.dst (.slice b n c)) w) : wpList P ops Q (o :: rest) act w :=
  wpList_plain hgd fun _ hK => by
    have hr := run_append_none (P := P) w t o.type e i ht hi b a n c k hn
    unfold Oper.wp execOp
    simp only [ho, resolve, invoke, builtin, Sem.run_bind, Sem.run_pure, Result.andThen_ok, List.map_toArray, List.map_cons, List.map_nil, hs, hx, hr]
    exact hK _ _ h
end
end Go.Chalk
