/- The plain law of LeastTells: what the walk computes answers true, for every input. No conditions but that numbers are of their kinds. -/
import Derived.Test.YtelkjbacdpmnfaaACaesuralaw21LeastTells
import Derived.Test.YtelkjbacdpmnfaaAPlainLeast
import Derived.Test.YtelkjbacdpmnfaaAPlainLight
import Derived.Test.YtelkjbacdpmnfaaAPlainSameA
namespace Go.Proofs.Ytelkjbacdpmnfaa.A
open Go.RowKit Go.Proofs.YtelkjbacdpmnfaaW.PrintWords Go.Proofs.YtelkjbacdpmnfaaW.PrintLast
set_option linter.unusedVariables false

theorem ev_wakes21 : Ev (fun k => caesuralaw21_wakes.f k) true := Ev.now _
theorem leastTells_ev (a : Int) (nx : List (List Int)) (ac : List Bool) : Ev (fun k => caesuralaw21_LeastTells.f k a nx ac) true := by
  unfold caesuralaw21_LeastTells.f
  refine Ev.bind (ev_Light a nx ac) ?_
  cases hl : lightB nx ac with
  | false =>
    simp only [Bool.false_eq_true, if_false]
    exact Ev.bind ev_wakes21 (Ev.now _)
  | true =>
    obtain ⟨h1, h2, h3⟩ := light_small hl
    simp only [if_true]
    have s1 : nx.length ≤ 1000000 := by omega
    have s2 : ∀ x ∈ nx, x.length ≤ 1000000 := fun x hx => by have := h2 x hx; omega
    have s3 : ac.length ≤ 1000000 := by omega
    refine Ev.bind (ev_OwnAutomaton a nx ac s1 s2 s3) ?_
    cases hg : goodB a nx ac with
    | true =>
      obtain ⟨R, C, r1, r2, c1, c2, hR, hC, ho⟩ := ev_least hg
      obtain ⟨z1, z2, z3⟩ := leastOf_small (a := a) ho
      have e1 := ho.r
      have e2 := ho.c
      refine Ev.bind (ev_leastOf hg r1 c1 ho) ?_
      refine Ev.bind (ev_refOf hg r2 c2 ho) ?_
      refine Ev.bind r1 (Ev.bind r2 (Ev.bind (ev_Bools_same R (by omega)) ?_))
      simp only [if_true]
      refine Ev.bind c1 (Ev.bind c2 (Ev.bind (ev_Ints_same C (by omega)) ?_))
      simp only [if_true]
      refine Ev.bind (ev_Automaton_same (leastOf a nx ac R C).1 (leastOf a nx ac R C).2.1 (leastOf a nx ac R C).2.2.1 (by omega) (fun x hx => by have := z2 x hx; omega) (by omega)) ?_
      simp only [if_true, beq_self_eq_true]
      refine Ev.bind (ev_Automaton_same a nx ac s1 s2 s3) ?_
      simp only [if_true]
      exact Ev.bind ev_wakes21 (Ev.now _)
    | false =>
      refine Ev.bind (ev_leastOf_bad hg) (Ev.bind (ev_refOf_bad hg) ?_)
      refine Ev.bind (ev_leastReach_bad hg) (Ev.bind (ev_refReach_bad hg) (Ev.bind (ev_Bools_same [] (by simp)) ?_))
      simp only [if_true]
      refine Ev.bind (ev_leastClasses_bad hg) (Ev.bind (ev_refClasses_bad hg) (Ev.bind (ev_Ints_same [] (by simp)) ?_))
      simp only [if_true]
      refine Ev.bind (ev_Automaton_same 0 [] [] (by simp) (by simp) (by simp)) ?_
      simp only [if_true, beq_self_eq_true]
      refine Ev.bind (ev_Automaton_same a nx ac s1 s2 s3) ?_
      simp only [if_true]
      exact Ev.bind ev_wakes21 (Ev.now _)
theorem leastTells_pure (a0_0 : Int) (l0_1 : List (List Int)) (l0_2 : List Bool) (wa0 : (Lit.int .i64 a0_0).wf = true) (wl0 : ∀ x ∈ l0_1, ∀ n ∈ x, (Lit.int .i64 n).wf = true) (wm0 : l0_1.length ≤ 9223372036854775807) : ∃ k, caesuralaw21_LeastTells.f k a0_0 l0_1 l0_2 = some true :=
  (leastTells_ev a0_0 l0_1 l0_2).rounds
end Go.Proofs.Ytelkjbacdpmnfaa.A
