/- Contracts. -/
import Derived.Test.YtelkjbacdpmnfaaB0
import Derived.Test.YtelkjbacdpmnfaaBCaesuralaw19One
import Derived.Test.YtelkjbacdpmnfaaBThompsonGood
import Derived.Test.YtelkjbacdpmnfaaBWordsA
import Derived.Shelf.Abstract
import Derived.Test.YtelkjbacdpmnfaaBThompsonNets
import Derived.Test.YtelkjbacdpmnfaaBThompsonGoodNet
import Derived.Test.YtelkjbacdpmnfaaBWordsB
import Derived.Test.YtelkjbacdpmnfaaBPlainGood













namespace Go.Proofs.Ytelkjbacdpmnfaa.A
open Go.RowKit Go.W_.PrintWords Go.W_.PrintLast Go.W_.PrintMore
attribute [local go_sem] max2_int min2_int max_two min_two max_three min_three max_four min_four
set_option linter.unusedVariables false
set_option linter.unusedSimpArgs false

theorem goodB_elim {a : Int} {nx : List (List Int)} {ac : List Bool} (h : goodB a nx ac = true) :
  1 ≤ a ∧ a ≤ 64 ∧ 1 ≤ nx.length ∧ nx.length ≤ 1000 ∧ ac.length = nx.length ∧ ∀ l ∈ nx, (l.length : Int) = a ∧ ∀ x ∈ l, 0 ≤ x ∧ x < nx.length := by
 unfold goodB at h
 simp only [Bool.and_eq_true, decide_eq_true_eq, Bool.not_eq_true', List.any_eq_false] at h
 obtain ⟨⟨⟨⟨⟨h1, h2⟩, h3⟩, h4⟩, h5⟩, h6⟩ := h
 refine ⟨h1, h2, by omega, by omega, by omega, fun l hl => ?_⟩
 have h7 := h6 l hl
 unfold BadRow at h7
 simp only [Bool.or_eq_true, Bool.not_eq_true', decide_eq_false_iff_not, not_or, Decidable.not_not, List.any_eq_true, not_exists, not_and] at h7
 refine ⟨h7.1, fun x hx => ?_⟩
 have h8 := h7.2 x hx
 unfold OutOf at h8
 simp only [Bool.or_eq_true, decide_eq_true_eq, not_or] at h8
 omega
end Go.Proofs.Ytelkjbacdpmnfaa.A
