/- By a program, out of the translation (wip/myprint.py). -/
import Derived.Test.YtelkjbacdpmnfaaA0
import Derived.Test.YtelkjbacdpmnfaaAHolds
namespace Go.Proofs.Ytelkjbacdpmnfaa.A
open Go.RowKit Go.Proofs.YtelkjbacdpmnfaaW.PrintWords Go.Proofs.YtelkjbacdpmnfaaW.PrintLast Go.Proofs.YtelkjbacdpmnfaaW.PrintMore
attribute [local go_sem] max2_int min2_int max_two min_two max_three min_three max_four min_four   -- for this text's walks alone
set_option linter.unusedVariables false
set_option linter.unusedSimpArgs false

section
variable {w W W' : World} {b0 b1 b2 b3 : List (Nat × Array Value × TypeId)} {ns : List (Value × List (List S82))} {rs : List (Value × List (List Int))} {es : List (Value × List Bool)}
theorem Hold.alloc2 (h : Hold w W (b0 ++ (b1 ++ b2)) ns rs es) (cs : Array Value) (t : TypeId) : Hold w (W.alloc (.cells cs t)) (b0 ++ (b1 ++ (W.heap.size, cs, t) :: b2)) ns rs es := by
  have := Hold.alloc (b1 := b0 ++ b1) (b2 := b2) (by rw [List.append_assoc]; exact h) cs t
  rwa [List.append_assoc] at this
theorem Hold.alloc3 (h : Hold w W (b0 ++ (b1 ++ (b2 ++ b3))) ns rs es) (cs : Array Value) (t : TypeId) : Hold w (W.alloc (.cells cs t)) (b0 ++ (b1 ++ (b2 ++ (W.heap.size, cs, t) :: b3))) ns rs es := by
  have := Hold.alloc2 (b0 := b0) (b1 := b1 ++ b2) (b2 := b3) (by rw [List.append_assoc]; exact h) cs t
  rwa [List.append_assoc] at this
end

end Go.Proofs.Ytelkjbacdpmnfaa.A
