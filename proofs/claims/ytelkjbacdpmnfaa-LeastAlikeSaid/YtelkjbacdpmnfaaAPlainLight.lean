/- By a program, out of the translation (wip/myprint.py). -/
import Derived.Test.YtelkjbacdpmnfaaA0
import Derived.Test.YtelkjbacdpmnfaaACaesuralaw21Light
import Derived.Test.YtelkjbacdpmnfaaAPlainLarge
namespace Go.Proofs.Ytelkjbacdpmnfaa.A
open Go.RowKit Go.Proofs.YtelkjbacdpmnfaaW.PrintWords Go.Proofs.YtelkjbacdpmnfaaW.PrintLast Go.Proofs.YtelkjbacdpmnfaaW.PrintMore
attribute [local go_sem] max2_int min2_int max_two min_two max_three min_three max_four min_four   -- for this text's walks alone
set_option linter.unusedVariables false
set_option linter.unusedSimpArgs false

/-! automata that are light -/
def lightB (nx : List (List Int)) (ac : List Bool) : Bool := !decide (lsum 1500 nx > 1500) && (decide ((ac.length : Int) ≤ 300) && decide ((nx.length : Int) ≤ 60))
theorem ev_Light (a : Int) (nx : List (List Int)) (ac : List Bool) : Ev (fun k => caesuralaw21_Light.f k a nx ac) (lightB nx ac) := by
  unfold caesuralaw21_Light.f lightB
  refine Ev.bind (ev_LargeLists 1500 (by omega) (by omega) nx) ?_
  cases decide (lsum 1500 nx > 1500)
  · by_cases h : (ac.length : Int) ≤ 300
    · simpa [h] using Ev.now _
    · simpa [h] using Ev.now _
  · simpa using Ev.now _
theorem light_small {nx : List (List Int)} {ac : List Bool} (h : lightB nx ac = true) : nx.length ≤ 60 ∧ (∀ x ∈ nx, x.length ≤ 1500) ∧ ac.length ≤ 300 := by
  unfold lightB at h
  simp only [Bool.and_eq_true, Bool.not_eq_true', decide_eq_false_iff_not, decide_eq_true_eq] at h
  have h1 := lsum_nonneg 1500 (by omega) nx
  refine ⟨by omega, fun x hx => ?_, by omega⟩
  have := lsum_mem (most := 1500) (by omega) hx
  omega

end Go.Proofs.Ytelkjbacdpmnfaa.A
