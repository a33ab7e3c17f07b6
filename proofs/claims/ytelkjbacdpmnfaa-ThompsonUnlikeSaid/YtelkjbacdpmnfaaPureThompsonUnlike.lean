/- The plain law of ThompsonUnlike: what the walk computes answers true, for every input. No conditions but that numbers are of their kinds. -/
import Derived.Test.YtelkjbacdpmnfaaACaesuralaw19ThompsonUnlike
import Derived.Test.YtelkjbacdpmnfaaAPlainOne
namespace Go.Proofs.Ytelkjbacdpmnfaa.A
open Go.RowKit Go.Proofs.YtelkjbacdpmnfaaW.PrintWords Go.Proofs.YtelkjbacdpmnfaaW.PrintLast
set_option linter.unusedVariables false

theorem ite_snd {α : Type} (g : Bool) (x y : α) (b c : Bool) : (if g = true then (x, b) else (y, c)).2 = (if g = true then b else c) := by cases g <;> rfl
theorem ev_unlike_j1 (m : Bool) (a0 : Int) (nx : List (List Int)) (ac : List Bool) (a1 : Int) (nx' : List (List Int)) (ac' : List Bool) (c1 c2 : Int) (L1 L2 : List (List S82)) (h : m = false → L1 = [] ∧ L2 = []) :
    Ev (fun k => caesuralaw19_ThompsonUnlike.j1 k m m m a0 nx ac a1 nx' ac' c1 L1 c2 L2) true := by
  refine Ev.step (fun k => by simp only [caesuralaw19_ThompsonUnlike.j1]; rfl) ?_
  refine Ev.bind (ev_Of a0 nx ac) ?_
  refine Ev.bind (ev_Again a1 nx' ac') ?_
  simp only [beq_self_eq_true, if_true]
  refine Ev.bind (ev_refGood a0 nx ac) ?_
  have e1 : ((if goodB a0 nx ac = true then (a0, netOf nx ac, true) else (0, [], false)).2.2 == goodB a0 nx ac) = true := by cases goodB a0 nx ac <;> rfl
  have e2 : ((if goodB a1 nx' ac' = true then (a1, netAgain nx' ac', true) else (0, [], false)).2.2 == goodB a1 nx' ac') = true := by cases goodB a1 nx' ac' <;> rfl
  have e3 : (goodB a0 nx ac == (if goodB a0 nx ac = true then (a0, netOf nx ac, true) else (0, [], false)).2.2) = true := by cases goodB a0 nx ac <;> rfl
  simp only [e1, if_true]
  refine Ev.bind (ev_refGood a1 nx' ac') ?_
  simp only [e2, if_true, thompson_Good.f, Option.bind_some, e3]
  cases m with
  | true =>
    simp only [if_true]
    exact Ev.bind ev_wakes19 (Ev.now _)
  | false =>
    obtain ⟨rfl, rfl⟩ := h rfl
    simp only [Bool.false_eq_true, if_false, List.length_nil, Int.natCast_zero, if_true]
    exact Ev.bind ev_wakes19 (Ev.now _)

theorem thompsonUnlike_pure (a0_0 : Int) (l0_1 : List (List Int)) (l0_2 : List Bool) (a1_0 : Int) (l1_1 : List (List Int)) (l1_2 : List Bool) (wa0 : (Lit.int .i64 a0_0).wf = true) (wl0 : ∀ x ∈ l0_1, ∀ n ∈ x, (Lit.int .i64 n).wf = true) (wm0 : l0_1.length ≤ 9223372036854775807) (wa1 : (Lit.int .i64 a1_0).wf = true) (wl1 : ∀ x ∈ l1_1, ∀ n ∈ x, (Lit.int .i64 n).wf = true) (wm1 : l1_1.length ≤ 9223372036854775807) : ∃ k, caesuralaw19_ThompsonUnlike.f k a0_0 l0_1 l0_2 a1_0 l1_1 l1_2 = some true := by
  refine Ev.rounds (g := fun k => caesuralaw19_ThompsonUnlike.f k a0_0 l0_1 l0_2 a1_0 l1_1 l1_2) ?_
  have ht : Ev (fun k => caesuralaw19_ThompsonUnlike.j0 k true a0_0 l0_1 l0_2 a1_0 l1_1 l1_2) true := by
    refine Ev.step (fun k => by simp only [caesuralaw19_ThompsonUnlike.j0, if_true]; rfl) ?_
    exact Ev.bind ev_wakes19 (Ev.now _)
  have hf : Ev (fun k => caesuralaw19_ThompsonUnlike.j0 k false a0_0 l0_1 l0_2 a1_0 l1_1 l1_2) true := by
    refine Ev.step (fun k => by simp only [caesuralaw19_ThompsonUnlike.j0, Bool.false_eq_true, if_false]; rfl) ?_
    refine Ev.bind (ev_Join a0_0 l0_1 l0_2 a1_0 l1_1 l1_2) ?_
    refine Ev.bind (ev_Either a0_0 l0_1 l0_2 a1_0 l1_1 l1_2) ?_
    refine Ev.bind (ev_refGood a0_0 l0_1 l0_2) ?_
    cases hg : goodB a0_0 l0_1 l0_2 with
    | false =>
      have hb : bothB a0_0 l0_1 l0_2 a1_0 l1_1 l1_2 = false := by unfold bothB; rw [hg]; rfl
      simp only [hb, Bool.false_eq_true, if_false]
      exact ev_unlike_j1 false _ _ _ _ _ _ _ _ _ _ (fun _ => ⟨rfl, rfl⟩)
    | true =>
      simp only [if_true]
      refine Ev.bind (ev_refGood a1_0 l1_1 l1_2) ?_
      cases hg' : goodB a1_0 l1_1 l1_2 with
      | false =>
        have hb : bothB a0_0 l0_1 l0_2 a1_0 l1_1 l1_2 = false := by unfold bothB; rw [hg, hg']; rfl
        simp only [hb, Bool.false_eq_true, if_false]
        exact ev_unlike_j1 false _ _ _ _ _ _ _ _ _ _ (fun _ => ⟨rfl, rfl⟩)
      | true =>
        have hb : bothB a0_0 l0_1 l0_2 a1_0 l1_1 l1_2 = (a0_0 == a1_0) := by unfold bothB; rw [hg, hg']; rfl
        simp only [if_true, hb]
        cases he : (a0_0 == a1_0) with
        | false =>
          simp only [Bool.false_eq_true, if_false]
          exact ev_unlike_j1 false _ _ _ _ _ _ _ _ _ _ (fun _ => ⟨rfl, rfl⟩)
        | true =>
          simp only [if_true]
          exact ev_unlike_j1 true _ _ _ _ _ _ _ _ _ _ (fun h => by cases h)
  unfold caesuralaw19_ThompsonUnlike.f
  refine Ev.bind (ev_Large a0_0 l0_1 l0_2) ?_
  cases largeB l0_1 l0_2 with
  | true => simpa using ht
  | false =>
    simp only [Bool.false_eq_true, if_false]
    refine Ev.bind (ev_Large a1_0 l1_1 l1_2) ?_
    cases largeB l1_1 l1_2 with
    | true => exact ht
    | false => exact hf
end Go.Proofs.Ytelkjbacdpmnfaa.A
