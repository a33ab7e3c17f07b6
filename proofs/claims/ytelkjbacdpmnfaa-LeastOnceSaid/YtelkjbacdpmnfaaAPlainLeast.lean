/- By a program, out of the translation (wip/myprint.py). -/
import Derived.Test.YtelkjbacdpmnfaaA0
import Derived.Test.YtelkjbacdpmnfaaACaesuraref21Classes
import Derived.Test.YtelkjbacdpmnfaaACaesuraref21Reach
import Derived.Test.YtelkjbacdpmnfaaALeastClasses
import Derived.Test.YtelkjbacdpmnfaaALeastReach
import Derived.Test.YtelkjbacdpmnfaaAPlainAlike
import Derived.Test.YtelkjbacdpmnfaaAPlainAut
import Derived.Test.YtelkjbacdpmnfaaAPlainClasses
import Derived.Test.YtelkjbacdpmnfaaAPlainOf
import Derived.Test.YtelkjbacdpmnfaaAPlainReach
import Derived.Test.YtelkjbacdpmnfaaAPlainRefClasses
import Derived.Test.YtelkjbacdpmnfaaAPlainRefOf
import Derived.Test.YtelkjbacdpmnfaaAPlainSplit
import Derived.Test.YtelkjbacdpmnfaaAThompsonGood
namespace Go.Proofs.Ytelkjbacdpmnfaa.A
open Go.RowKit Go.Proofs.YtelkjbacdpmnfaaW.PrintWords Go.Proofs.YtelkjbacdpmnfaaW.PrintLast Go.Proofs.YtelkjbacdpmnfaaW.PrintMore
attribute [local go_sem] max2_int min2_int max_two min_two max_three min_three max_four min_four   -- for this text's walks alone
set_option linter.unusedVariables false
set_option linter.unusedSimpArgs false

/-! the least automaton: both packages tell the same -/
theorem ev_least {a : Int} {nx : List (List Int)} {ac : List Bool} (hg : goodB a nx ac = true) : ∃ R C, Ev (fun k => least_Reach.f k a nx ac) R ∧ Ev (fun k => caesuraref21_Reach.f k a nx ac) R ∧ Ev (fun k => least_Classes.f k a nx ac) C ∧ Ev (fun k => caesuraref21_Classes.f k a nx ac) C ∧ IsReach nx.length a.toNat (stL nx) R ∧ IsClasses nx.length a.toNat (stL nx) (acL ac) C ∧ OfOk nx ac R C := by
  obtain ⟨R, h1, h2⟩ := ev_leastReach hg
  obtain ⟨R', h1', h2'⟩ := ev_refReach hg
  obtain ⟨C, h3, h4⟩ := ev_leastClasses hg
  obtain ⟨C', h3', h4'⟩ := ev_refClasses hg
  obtain rfl := h2.unique h2'
  obtain rfl := h4.unique h4'
  exact ⟨R, C, h1, h1', h3, h3', h2, h4, ofOk_of (Aut.of hg) h2 h4⟩
theorem leastOf_small {a : Int} {nx : List (List Int)} {ac R : List Bool} {C : List Int} (h : OfOk nx ac R C) : (leastOf a nx ac R C).2.1.length ≤ 1000 ∧ (∀ x ∈ (leastOf a nx ac R C).2.1, x.length ≤ 1000) ∧ (leastOf a nx ac R C).2.2.1.length ≤ 1000 := by
  have h1 := keptTo_length R C nx.length
  have h2 := h.n
  unfold leastOf
  refine ⟨by simp only [ofNext_length]; omega, fun x hx => ?_, by simp only [ofEnds_length]; omega⟩
  unfold ofNext at hx
  obtain ⟨t, ht, rfl⟩ := List.mem_map.1 hx
  obtain ⟨h3, h4⟩ := keptTo_mem ht
  obtain ⟨s, rfl⟩ : ∃ s : Nat, t = (s : Int) := ⟨t.toNat, by omega⟩
  rw [ofRow_length]
  exact h.width (by omega)

end Go.Proofs.Ytelkjbacdpmnfaa.A
