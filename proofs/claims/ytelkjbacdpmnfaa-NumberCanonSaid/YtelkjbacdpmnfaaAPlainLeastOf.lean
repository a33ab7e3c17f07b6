/- By a program, out of the translation (wip/myprint.py). -/
import Derived.Test.YtelkjbacdpmnfaaA0
import Derived.Test.YtelkjbacdpmnfaaALeastClasses
import Derived.Test.YtelkjbacdpmnfaaALeastOf
import Derived.Test.YtelkjbacdpmnfaaALeastReach
import Derived.Test.YtelkjbacdpmnfaaAPlainAut
import Derived.Test.YtelkjbacdpmnfaaAPlainBase
import Derived.Test.YtelkjbacdpmnfaaAThompsonGood
namespace Go.Proofs.Ytelkjbacdpmnfaa.A
open Go.RowKit Go.Proofs.YtelkjbacdpmnfaaW.PrintWords Go.Proofs.YtelkjbacdpmnfaaW.PrintLast Go.Proofs.YtelkjbacdpmnfaaW.PrintMore
attribute [local go_sem] max2_int min2_int max_two min_two max_three min_three max_four min_four   -- for this text's walks alone
set_option linter.unusedVariables false
set_option linter.unusedSimpArgs false

/-! the least automaton: the program's -/
section
variable {a : Int} {nx : List (List Int)} {ac R : List Bool} {C : List Int}
theorem ofOk_of (h : Aut a nx ac) (hR : IsReach nx.length a.toNat (stL nx) R) (hC : IsClasses nx.length a.toNat (stL nx) (acL ac) C) : OfOk nx ac R C := by
  have ha2 := h.a2
  refine ⟨hR.1, hC.1, h.ends, h.n2, fun r hr => ?_, fun x hx => ?_⟩
  · obtain ⟨s, hs, rfl⟩ := List.mem_iff_getElem.1 hr
    have e : nx[s] = nx.getD s [] := by rw [List.getD_eq_getElem?_getD, List.getElem?_eq_getElem hs]; rfl
    rw [e]
    have hl := h.len hs
    refine ⟨by omega, fun x hx => ?_⟩
    obtain ⟨c, hc, rfl⟩ := List.mem_iff_getElem.1 hx
    have h1 := h.to_ s c hs (by omega)
    rwa [List.getD_eq_getElem?_getD (i := c), List.getElem?_eq_getElem hc] at h1
  · obtain ⟨s, hs, rfl⟩ := List.mem_iff_getElem.1 hx
    obtain ⟨u, e, hu, _⟩ := hC.2 s (by rw [← hC.1]; exact hs)
    rw [List.getD_eq_getElem?_getD, List.getElem?_eq_getElem hs] at e
    simp only [Option.getD_some] at e
    have := hC.1
    omega
def leastOf (a : Int) (nx : List (List Int)) (ac R : List Bool) (C : List Int) : Int × List (List Int) × List Bool × Bool := (a, ofNext nx C (keptTo R C nx.length) (keptTo R C nx.length), ofEnds ac (keptTo R C nx.length), true)
theorem ev_leastOf (hg : goodB a nx ac = true) (hR : Ev (fun k => least_Reach.f k a nx ac) R) (hC : Ev (fun k => least_Classes.f k a nx ac) C) (ho : OfOk nx ac R C) : Ev (fun k => least_Of.f k a nx ac) (leastOf a nx ac R C) := by
  refine Ev.congr (f := fun k => (least_Reach.f k a nx ac).bind fun R => (least_Classes.f k a nx ac).bind fun C => if ofOk nx ac R C = true then some (leastOf a nx ac R C) else none) (fun k => ?_) ?_
  · unfold least_Of.f thompson_Good.f
    rw [hg]
    rfl
  · refine Ev.bind (f := fun k R => (least_Classes.f k a nx ac).bind fun C => if ofOk nx ac R C = true then some (leastOf a nx ac R C) else none) hR ?_
    refine Ev.bind (f := fun k C => if ofOk nx ac R C = true then some (leastOf a nx ac R C) else none) hC ?_
    exact Ev.congr (f := fun _ => some (leastOf a nx ac R C)) (fun k => if_pos ho.intro) (Ev.now _)
theorem ev_leastOf_bad (hg : goodB a nx ac = false) : Ev (fun k => least_Of.f k a nx ac) (0, [], [], false) := by
  refine Ev.congr (f := fun _ => some (0, [], [], false)) (fun k => ?_) (Ev.now _)
  unfold least_Of.f thompson_Good.f
  simp [hg]
end

end Go.Proofs.Ytelkjbacdpmnfaa.A
