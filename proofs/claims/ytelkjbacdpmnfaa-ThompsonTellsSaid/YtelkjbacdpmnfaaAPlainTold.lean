/- By a program, out of the translation (wip/myprint.py). -/
import Derived.Test.YtelkjbacdpmnfaaA0
import Derived.Test.YtelkjbacdpmnfaaACaesuralaw19LargeNet
import Derived.Test.YtelkjbacdpmnfaaAPlainGood
import Derived.Test.YtelkjbacdpmnfaaAPlainOne
import Derived.Test.YtelkjbacdpmnfaaAPlainTells
namespace Go.Proofs.Ytelkjbacdpmnfaa.A
open Go.RowKit Go.Proofs.YtelkjbacdpmnfaaW.PrintWords Go.Proofs.YtelkjbacdpmnfaaW.PrintLast Go.Proofs.YtelkjbacdpmnfaaW.PrintMore
attribute [local go_sem] max2_int min2_int max_two min_two max_three min_three max_four min_four   -- for this text's walks alone
set_option linter.unusedVariables false
set_option linter.unusedSimpArgs false

/-! what is not too large is small -/
theorem ev_LargeNet_l0 (a : Int) (l : List (List S82)) :
    ∀ (d i : Nat) (s : Int), i + d = l.length → (i : Int) ≤ s → s ≤ 12001 → (s ≤ 6000 → ∀ j, j < i → (l.getD j []).length ≤ 6000) → ∃ b, Ev (fun k => caesuralaw19_LargeNet.l0 k s (i : Int) a l) b ∧ (b = false → SmallNet l) := by
  intro d
  induction d with
  | zero =>
    intro i s hi hs hs2 hsm
    refine ⟨decide (s > 6000), Ev.step (f := fun _ => some (decide (s > 6000))) (fun k => ?_) (Ev.now _), fun hb => ?_⟩
    · simp only [caesuralaw19_LargeNet.l0]
      rw [if_neg (by omega)]
    · have h1 : s ≤ 6000 := by simpa using hb
      have h2 := hsm h1
      refine ⟨by omega, fun x hx => ?_⟩
      obtain ⟨j, hj, rfl⟩ := List.mem_iff_getElem.1 hx
      have h3 := h2 j (by omega)
      simp [List.getD, hj] at h3
      omega
  | succ d ih =>
    intro i s hi hs hs2 hsm
    have hil : i < l.length := by omega
    by_cases h1 : s ≤ 6000
    · obtain ⟨b, hb, hb2⟩ := ih (i + 1) (s + (1 + min ((l.getD i []).length : Int) 6000)) (by omega) (by omega) (by omega) (fun h j hj => by
        rcases Nat.lt_or_ge j i with h2 | h2
        · exact hsm h1 j h2
        · obtain rfl : j = i := by omega
          omega)
      refine ⟨b, Ev.step (f := fun k => caesuralaw19_LargeNet.l0 k (s + (1 + min ((l.getD i []).length : Int) 6000)) ((i + 1 : Nat) : Int) a l) (fun k => ?_) hb, hb2⟩
      simp only [caesuralaw19_LargeNet.l0, rd2_nat, mn_min]
      rw [if_pos (by omega), if_pos h1, if_pos (by omega), wadd (x := s) (by omega) (by omega), wadd (x := (i : Int)) (by omega) (by omega), nat_succ_cast]
    · refine ⟨true, Ev.step (f := fun _ => some (decide (s > 6000))) (fun k => ?_) ?_, fun h => by cases h⟩
      · simp only [caesuralaw19_LargeNet.l0]
        rw [if_pos (by omega), if_neg h1]
      · rw [decide_eq_true (show s > 6000 by omega)]
        exact Ev.now _
theorem ev_LargeNet (a : Int) (l : List (List S82)) : ∃ b, Ev (fun k => caesuralaw19_LargeNet.f k a l) b ∧ (b = false → SmallNet l) := by
  unfold caesuralaw19_LargeNet.f
  exact ev_LargeNet_l0 a l l.length 0 0 (by omega) (by omega) (by omega) (fun _ j hj => by omega)
theorem lsum_mem {most : Int} (hm : 0 ≤ most) : ∀ {l : List (List Int)} {x : List Int}, x ∈ l → 1 + min (x.length : Int) most ≤ lsum most l
  | y :: l, x, h => by
    have := lsum_nonneg most hm l
    rcases List.mem_cons.1 h with rfl | h
    · simp only [lsum, List.map_cons, List.sum_cons] at *; omega
    · have := lsum_mem hm h
      simp only [lsum, List.map_cons, List.sum_cons] at *; omega
theorem small_aut {nx : List (List Int)} {ac : List Bool} (h : largeB nx ac = false) : nx.length ≤ 1000000 ∧ (∀ x ∈ nx, x.length ≤ 1000000) ∧ ac.length ≤ 1000000 := by
  unfold largeB at h
  simp only [Bool.or_eq_false_iff, decide_eq_false_iff_not] at h
  have h1 := lsum_nonneg 4000 (by omega) nx
  refine ⟨by omega, fun x hx => ?_, by omega⟩
  have := lsum_mem (most := 4000) (by omega) hx
  omega

end Go.Proofs.Ytelkjbacdpmnfaa.A
