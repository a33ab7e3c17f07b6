/- By a program, out of the translation (wip/myprint.py). -/
import Derived.Test.YtelkjbacdpmnfaaA0
import Derived.Test.YtelkjbacdpmnfaaACaesuralaw21Wakes
import Derived.Test.YtelkjbacdpmnfaaAOnceMain
import Derived.Test.YtelkjbacdpmnfaaAOnceShort
import Derived.Test.YtelkjbacdpmnfaaAPlainAut
import Derived.Test.YtelkjbacdpmnfaaAPlainGood
import Derived.Test.YtelkjbacdpmnfaaAPlainLeast
import Derived.Test.YtelkjbacdpmnfaaAPlainLight
import Derived.Test.YtelkjbacdpmnfaaAPlainModel
import Derived.Test.YtelkjbacdpmnfaaAPlainOf
import Derived.Test.YtelkjbacdpmnfaaAPlainOnce
import Derived.Test.YtelkjbacdpmnfaaAPlainRefOf
import Derived.Test.YtelkjbacdpmnfaaAPlainSameA
import Derived.Test.YtelkjbacdpmnfaaAThompsonGood
namespace Go.Proofs.Ytelkjbacdpmnfaa.A
open Go.RowKit Go.Proofs.YtelkjbacdpmnfaaW.PrintWords Go.Proofs.YtelkjbacdpmnfaaW.PrintLast Go.Proofs.YtelkjbacdpmnfaaW.PrintMore
attribute [local go_sem] max2_int min2_int max_two min_two max_three min_three max_four min_four   -- for this text's walks alone
set_option linter.unusedVariables false
set_option linter.unusedSimpArgs false
/-! the statement LeastOnce: all ways -/
theorem ev_at {α : Type} {g : Nat → Option α} {r : α} (h : Ev g r) : ∃ K, ∀ k, K ≤ k → g k = some r := h
theorem caesuralaw21_LeastOnce.told (a : Int) (A1 : Option Addr) (c1 : Nat) (nx : List (List Int)) (A2 : Option Addr) (c2 : Nat) (ac : List Bool) (en : Bool) (w : World) (hr1 : Kd.C (Kd.slice 3 (Kd.int .i64)) w A1 nx.length nx) (hc1 : nx.length ≤ c1) (hr2 : Kd.C Kd.bool w A2 ac.length ac) (hc2 : ac.length ≤ c2) :
    Calls Try.prog 9 #[.agg #[.int .i64 a, .slice A1 nx.length c1, .slice A2 ac.length c2], .bool en] w fun e w' => e = .returned (.bool true) ∧ Below w.heap.size w w' := by
  have hw6 : ∀ k, caesuralaw21_wakes.f k = some true := fun _ => rfl
  obtain ⟨K1, hl⟩ := ev_at (ev_Light a nx ac)
  cases hlb : lightB nx ac with
  | false =>
    rw [hlb] at hl
    exact once_large K1 a A1 c1 nx A2 c2 ac en w hr1 hc1 hr2 hc2 (hl K1 (Nat.le_refl _)) (hw6 _)
  | true =>
    rw [hlb] at hl
    obtain ⟨K2, hg⟩ := ev_at (ev_refGood a nx ac)
    cases hgb : goodB a nx ac with
    | false =>
      rw [hgb] at hg
      exact once_bad (K1 + K2) a A1 c1 nx A2 c2 ac en w hr1 hc1 hr2 hc2 (hl _ (by omega)) (hg _ (by omega)) (hw6 _)
    | true =>
      rw [hgb] at hg
      by_cases hn : 40 < nx.length
      · exact once_long (K1 + K2) a A1 c1 nx A2 c2 ac en w hr1 hc1 hr2 hc2 (hl _ (by omega)) (hg _ (by omega)) hn (hw6 _)
      · have hA := Aut.of hgb
        have hen := hA.ends
        have hn1 := hA.n1
        obtain ⟨s1, s2, s3⟩ := light_small hlb
        obtain ⟨R, C, r1, _, q1, _, hR, hC, ho⟩ := ev_least hgb
        have M : Model a nx ac R C := ⟨hA, hR, hC⟩
        obtain ⟨R', C', r2, _, q2, _, hR', hC', ho'⟩ := ev_least M.good
        obtain rfl := hR'.unique M.reach_b
        obtain rfl := hC'.unique M.classes_b
        have hg3 : goodB a nx (List.replicate nx.length en) = true := good_ends hgb (by simp [hen])
        obtain ⟨R3, C3, r3, _, q3, _, hR3, hC3, ho3⟩ := ev_least hg3
        have hk3 := kept_same hg3 hR3 hC3
        have hg4 := good_more (en := en) hgb (by omega)
        obtain ⟨R4, C4, r4, _, q4, _, hR4, hC4, ho4⟩ := ev_least hg4
        have e4 := least_more hA M hR4 hC4
        obtain ⟨K3, h1⟩ := ev_at (ev_leastOf hgb r1 q1 ho)
        obtain ⟨K4, h2⟩ := ev_at (ev_leastOf M.good r2 q2 ho')
        obtain ⟨K5, h3⟩ := ev_at (ev_leastOf hg3 r3 q3 ho3)
        obtain ⟨K6, h4⟩ := ev_at (ev_leastOf hg4 r4 q4 ho4)
        obtain ⟨K7, h5⟩ := ev_at (ev_OwnAutomaton a nx ac (by omega) (fun x hx => by have := s2 x hx; omega) (by omega))
        obtain ⟨z1, z2, z3⟩ := leastOf_small (a := a) ho
        obtain ⟨K8, h7⟩ := ev_at (ev_Automaton_same a (bnx nx R C) (bac nx ac R C) (Nat.le_trans z1 (by omega)) (fun x hx => Nat.le_trans (z2 x hx) (by omega)) (Nat.le_trans z3 (by omega)))
        rw [e4] at h4
        obtain ⟨K, hK⟩ : ∃ K, K = K1 + K2 + K3 + K4 + K5 + K6 + K7 + K8 := ⟨_, rfl⟩
        have hfill : fillTo en ac ac.length = List.replicate nx.length en := by
          unfold fillTo
          rw [List.drop_of_length_le (Nat.le_refl _), List.append_nil, hen]
        have hX3 : (leastOf a nx (List.replicate nx.length en) R3 C3).2.1.length = 1 := by
          rw [leastOf_eq]
          show (bnx nx R3 C3).length = 1
          rw [bnx_length, hk3]
          rfl
        have hY3 : leastOf a nx (List.replicate nx.length en) R3 C3 = (a, (leastOf a nx (List.replicate nx.length en) R3 C3).2.1, [en], true) := by
          rw [leastOf_eq]
          refine Prod.ext rfl (Prod.ext rfl (Prod.ext ?_ rfl))
          show bac nx (List.replicate nx.length en) R3 C3 = [en]
          unfold bac ofEnds
          rw [hk3]
          show [(List.replicate nx.length en).getD 0 false] = [en]
          rw [List.getD_eq_getElem?_getD, List.getElem?_replicate, if_pos (by omega)]
          rfl
        have hm2 : (leastOf a (bnx nx R C) (bac nx ac R C) (List.replicate (bnx nx R C).length true) ((List.range (bnx nx R C).length).map fun (i : Nat) => (i : Int))).2.1.length = (bnx nx R C).length := by
          rw [leastOf_eq]
          show (bnx (bnx nx R C) _ _).length = _
          rw [bnx_length]
          exact kept_again _ _ rfl
        refine once_main K a A1 c1 nx A2 c2 ac en w hr1 hc1 hr2 hc2 (bnx nx R C) (leastOf a (bnx nx R C) (bac nx ac R C) (List.replicate (bnx nx R C).length true) ((List.range (bnx nx R C).length).map fun (i : Nat) => (i : Int))).2.1 (leastOf a nx (List.replicate nx.length en) R3 C3).2.1 (bac nx ac R C) (leastOf a (bnx nx R C) (bac nx ac R C) (List.replicate (bnx nx R C).length true) ((List.range (bnx nx R C).length).map fun (i : Nat) => (i : Int))).2.2.1 (bnx nx R C).length (hl K (by omega)) (hg K (by omega)) (by omega) hen (by omega) (by have := hA.a1; omega) hA.a2 (h1 K (by omega)) ?_ rfl hm2 (h5 K (by omega)) ?_ hX3 ?_ (h7 K (by omega)) (hw6 K)
        · rw [h2 K (by omega)]
          rfl
        · rw [hfill, h3 K (by omega), hY3]
        · exact h4 K (by omega)

end Go.Proofs.Ytelkjbacdpmnfaa.A
