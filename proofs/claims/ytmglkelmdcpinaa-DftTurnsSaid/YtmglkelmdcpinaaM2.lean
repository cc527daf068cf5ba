/- A field of a struct within a struct, as the walk reads it out of a struct value. Conditions: none. -/
import Derived.Tactics
import Derived.KernelRfl
import Derived.RowKit
import Derived.Test.YtmglkelmdcpinaaProg
namespace Go.Proofs.Ytmglkelmdcpinaa.M
open Go.RowKit
theorem run_asAgg {P : Program} (cs : Array Value) (w : World) : (asAgg (.agg cs)).run P w = .ok cs w := rfl
@[go_sem] theorem run_field162_0 (a b c : Value) (w : World) : (Instr.field 162 (.agg #[a, b, c]) 0).run Try.prog w = .ok (.agg #[a, b]) w := by
  have hu162 := Try.underlying162
  have hu43 := Try.underlying43
  have i43 : (Try.prog.info? 43).map (·.size) = some 2 := by kernel_rfl
  unfold Instr.field
  simp [Sem.run_bind, go_sem, run_asAgg]
@[go_sem] theorem run_field162_1 (a b c : Value) (w : World) : (Instr.field 162 (.agg #[a, b, c]) 1).run Try.prog w = .ok c w := by
  have hu162 := Try.underlying162
  unfold Instr.field
  simp [Sem.run_bind, go_sem, run_asAgg]
@[go_sem] theorem run_field43_0 (a b : Value) (w : World) : (Instr.field 43 (.agg #[a, b]) 0).run Try.prog w = .ok a w := by
  have hu43 := Try.underlying43
  unfold Instr.field
  simp [Sem.run_bind, go_sem, run_asAgg]
@[go_sem] theorem run_field43_1 (a b : Value) (w : World) : (Instr.field 43 (.agg #[a, b]) 1).run Try.prog w = .ok b w := by
  have hu43 := Try.underlying43
  unfold Instr.field
  simp [Sem.run_bind, go_sem, run_asAgg]
end Go.Proofs.Ytmglkelmdcpinaa.M
