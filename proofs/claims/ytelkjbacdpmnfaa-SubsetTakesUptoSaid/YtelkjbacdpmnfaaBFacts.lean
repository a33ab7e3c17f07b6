/- Contracts. -/
import Derived.Test.YtelkjbacdpmnfaaB0
import Derived.Test.YtelkjbacdpmnfaaRows
import Derived.ProofKit


namespace Go.Proofs.Ytelkjbacdpmnfaa.A
open Go.RowKit Go.W_.PrintWords Go.W_.PrintLast Go.W_.PrintMore
attribute [local go_sem] max2_int min2_int max_two min_two max_three min_three max_four min_four
set_option linter.unusedVariables false
set_option linter.unusedSimpArgs false

section
open Go.ChangeShapes Go.WideShapes Go.ChangeAt
theorem band {a b : Bool} (h : a = true) (k : b = true) : (a && b) = true := by rw [h, k]; rfl
theorem fact_laid : laidOutB Try.pinned.checked.prog = true := by kernel_rfl
theorem fact_maps : mapsRowed Try.pinned.checked.prog = true := by kernel_rfl
theorem fact_heard : Try.pinned.checked.prog.stopsHeard = true := by kernel_rfl
theorem fact_enter : Try.pinned.checked.prog.mayEnter = true := by kernel_rfl
theorem fact_lifted : (Rows.thompsonUnlikeRow.lifted == Try.pinned.checked.prog.liftsFinal) = true := by kernel_rfl
theorem fact_make : (Try.pinned.checked.prog.make == some Rows.thompsonUnlikeRow.make) = true := by kernel_rfl
theorem fact_plain : (Rows.thompsonUnlikeRow.plainKeys == Try.pinned.checked.prog.plainKeys) = true := by kernel_rfl
end

end Go.Proofs.Ytelkjbacdpmnfaa.A
