/-
  Two threads' registers that are the same are told to be so by Go's ==. No condition.
-/
import Derived.Test.YtjlfjkpbooholaaDoorK
import Derived.Laws.StructEq
namespace Go.Proofs.YtjlfjkpbooholaaDoor.M
open Go.RowKit Go.Proofs.YtjlfjkpbooholaaDoorW.PrintWords Go.Proofs.YtjlfjkpbooholaaDoorW.PrintLast
theorem eq_regs (d : Nat) (a0 a1 a2 a3 a4 a5 a6 a7 : Int) (W : World) : (Op.equalIn (d + 2) 22 (.agg #[i64 a0, i64 a1, i64 a2, i64 a3, i64 a4, i64 a5, i64 a6, i64 a7]) (.agg #[i64 a0, i64 a1, i64 a2, i64 a3, i64 a4, i64 a5, i64 a6, i64 a7])).run Tryd.prog W = .ok true W := by
  unfold Op.equalIn
  simp [go_sem, List.range', part]
end Go.Proofs.YtjlfjkpbooholaaDoor.M
