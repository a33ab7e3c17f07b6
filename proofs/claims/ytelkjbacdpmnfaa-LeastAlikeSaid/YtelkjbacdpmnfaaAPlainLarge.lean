/- By a program, out of the translation (wip/myprint.py). -/
import Derived.Test.YtelkjbacdpmnfaaA0
import Derived.Test.YtelkjbacdpmnfaaACaesurakeepLargeLists
import Derived.Test.YtelkjbacdpmnfaaAPlainGood
namespace Go.Proofs.Ytelkjbacdpmnfaa.A
open Go.RowKit Go.Proofs.YtelkjbacdpmnfaaW.PrintWords Go.Proofs.YtelkjbacdpmnfaaW.PrintLast Go.Proofs.YtelkjbacdpmnfaaW.PrintMore
attribute [local go_sem] max2_int min2_int max_two min_two max_three min_three max_four min_four   -- for this text's walks alone
set_option linter.unusedVariables false
set_option linter.unusedSimpArgs false

/-! LargeLists -/
/-- How much lists hold: one each, and their elements (at most so many each). -/
def lsum (most : Int) (l : List (List Int)) : Int := (l.map fun x => 1 + min (x.length : Int) most).sum
theorem lsum_nonneg (most : Int) (hm : 0 ≤ most) (l : List (List Int)) : (l.length : Int) ≤ lsum most l := by
  induction l with
  | nil => simp [lsum]
  | cons x l ih => simp only [lsum, List.map_cons, List.sum_cons, List.length_cons] at *; omega
theorem mn_min (x y : Int) : mn x y = min x y := by unfold mn; omega
theorem ev_LargeLists_l0 (most : Int) (hm : 0 ≤ most) (hM : most ≤ 1000000) (l : List (List Int)) :
    ∀ (d i : Nat) (s : Int), i + d = l.length → (i : Int) ≤ s → s ≤ 2 * most + 1 → Ev (fun k => caesurakeep_LargeLists.l0 k l most s (i : Int)) (decide (s + lsum most (l.drop i) > most)) := by
  intro d
  induction d with
  | zero =>
    intro i s hi hs hs2
    rw [List.drop_of_length_le (by omega)]
    refine Ev.step (f := fun _ => some (decide (s > most))) (fun k => ?_) (by simpa [lsum] using Ev.now _)
    simp only [caesurakeep_LargeLists.l0]
    rw [if_neg (by omega)]
  | succ d ih =>
    intro i s hi hs hs2
    have hil : i < l.length := by omega
    have hdr := drop_cons_getD l [] i hil
    have hnn := lsum_nonneg most hm (l.drop i)
    by_cases h1 : s ≤ most
    · refine Ev.step (f := fun k => caesurakeep_LargeLists.l0 k l most (s + (1 + min ((l.getD i []).length : Int) most)) ((i + 1 : Nat) : Int)) (fun k => ?_) ?_
      · simp only [caesurakeep_LargeLists.l0, rd5_nat, mn_min]
        rw [if_pos (by omega), if_pos h1, if_pos (by omega), wadd (x := 1) (by omega) (by omega), wadd (x := s) (by omega) (by omega), wadd (x := (i : Int)) (by omega) (by omega), nat_succ_cast]
      · have h := ih (i + 1) (s + (1 + min ((l.getD i []).length : Int) most)) (by omega) (by omega) (by omega)
        rw [hdr]
        have e : lsum most (l.getD i [] :: l.drop (i + 1)) = (1 + min ((l.getD i []).length : Int) most) + lsum most (l.drop (i + 1)) := by simp [lsum]
        have e2 : s + (1 + min ((l.getD i []).length : Int) most + lsum most (l.drop (i + 1))) = s + (1 + min ((l.getD i []).length : Int) most) + lsum most (l.drop (i + 1)) := by omega
        rw [e, e2]
        exact h
    · refine Ev.step (f := fun _ => some (decide (s > most))) (fun k => ?_) ?_
      · simp only [caesurakeep_LargeLists.l0]
        rw [if_pos (by omega), if_neg h1]
      · rw [decide_eq_true (show s > most by omega), decide_eq_true (show s + lsum most (l.drop i) > most by omega)]
        exact Ev.now _
theorem ev_LargeLists (most : Int) (hm : 0 ≤ most) (hM : most ≤ 1000000) (l : List (List Int)) : Ev (fun k => caesurakeep_LargeLists.f k l most) (decide (lsum most l > most)) := by
  have h := ev_LargeLists_l0 most hm hM l l.length 0 0 (by omega) (by omega) (by omega)
  simpa [caesurakeep_LargeLists.f] using h
/-- Is an automaton too large? -/
theorem lsum_mem {most : Int} (hm : 0 ≤ most) : ∀ {l : List (List Int)} {x : List Int}, x ∈ l → 1 + min (x.length : Int) most ≤ lsum most l
  | y :: l, x, h => by
    have := lsum_nonneg most hm l
    rcases List.mem_cons.1 h with rfl | h
    · simp only [lsum, List.map_cons, List.sum_cons] at *; omega
    · have := lsum_mem hm h
      simp only [lsum, List.map_cons, List.sum_cons] at *; omega

end Go.Proofs.Ytelkjbacdpmnfaa.A
