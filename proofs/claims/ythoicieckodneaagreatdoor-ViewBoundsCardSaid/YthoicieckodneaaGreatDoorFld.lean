/- Walk words: a field of a record that a call gave. -/
import Derived.Test.YthoicieckodneaaGreatDoorJBase
namespace Go.Proofs.YthoicieckodneaaGreatDoor.Loc
open Go.RowKit
set_option linter.unusedVariables false
set_option linter.unusedSimpArgs false

theorem run_field3 (c0 c1 c2 c3 c4 c5 c6 c7 : Value) (w : World) : (Instr.field 80 (.agg #[c0, c1, c2, c3, c4, c5, c6, c7]) 3).run Tryz.prog w = .ok c3 w := by
  have u := Tryz.underlying80
  have a9 := Tryz.isAgg9
  unfold Instr.field
  simp [run_underlying u, part, a9, asAgg]
theorem run_field4 (c0 c1 c2 c3 c4 c5 c6 c7 : Value) (w : World) : (Instr.field 80 (.agg #[c0, c1, c2, c3, c4, c5, c6, c7]) 4).run Tryz.prog w = .ok c4 w := by
  have u := Tryz.underlying80
  have a9 := Tryz.isAgg9
  unfold Instr.field
  simp [run_underlying u, part, a9, asAgg]
theorem run_field5 (c0 c1 c2 c3 c4 c5 c6 c7 : Value) (w : World) : (Instr.field 80 (.agg #[c0, c1, c2, c3, c4, c5, c6, c7]) 5).run Tryz.prog w = .ok c5 w := by
  have u := Tryz.underlying80
  have a9 := Tryz.isAgg9
  unfold Instr.field
  simp [run_underlying u, part, a9, asAgg]
end Go.Proofs.YthoicieckodneaaGreatDoor.Loc
