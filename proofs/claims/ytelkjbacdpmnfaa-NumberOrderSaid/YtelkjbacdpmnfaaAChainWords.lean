/- By a program, out of the translation (wip/myprint.py). -/
import Derived.Test.YtelkjbacdpmnfaaA0
namespace Go.Proofs.Ytelkjbacdpmnfaa.A
open Go.RowKit Go.Proofs.YtelkjbacdpmnfaaW.PrintWords Go.Proofs.YtelkjbacdpmnfaaW.PrintLast Go.Proofs.YtelkjbacdpmnfaaW.PrintMore
attribute [local go_sem] max2_int min2_int max_two min_two max_three min_three max_four min_four   -- for this text's walks alone
set_option linter.unusedVariables false
set_option linter.unusedSimpArgs false

/-! a world gets a letter where a call begins -/
theorem calls_new {f : FuncId} {args : Array Value} {v W : World} {Q : Ending → World → Prop} {F : World → Prop} (hb : Below v.heap.size v W) (hF : F W) (k : ∀ W, Below v.heap.size v W → F W → Calls Try.prog f args W Q) : Calls Try.prog f args W Q := k W hb hF

end Go.Proofs.Ytelkjbacdpmnfaa.A
