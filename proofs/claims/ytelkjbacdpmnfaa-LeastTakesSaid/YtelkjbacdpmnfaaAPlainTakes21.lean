/- By a program, out of the translation (wip/myprint.py). -/
import Derived.Test.YtelkjbacdpmnfaaA0
import Derived.Test.YtelkjbacdpmnfaaAPlainAlike
import Derived.Test.YtelkjbacdpmnfaaAPlainAut
import Derived.Test.YtelkjbacdpmnfaaAPlainGood
import Derived.Test.YtelkjbacdpmnfaaAPlainSplit
import Derived.Test.YtelkjbacdpmnfaaASubsetTakes
import Derived.Test.YtelkjbacdpmnfaaAThompsonGood
namespace Go.Proofs.Ytelkjbacdpmnfaa.A
open Go.RowKit Go.Proofs.YtelkjbacdpmnfaaW.PrintWords Go.Proofs.YtelkjbacdpmnfaaW.PrintLast Go.Proofs.YtelkjbacdpmnfaaW.PrintMore
attribute [local go_sem] max2_int min2_int max_two min_two max_three min_three max_four min_four   -- for this text's walks alone
set_option linter.unusedVariables false
set_option linter.unusedSimpArgs false

/-! what an automaton takes -/
theorem ev_subsetTakes {a : Int} {nx : List (List Int)} {ac : List Bool} (hg : goodB a nx ac = true) {w : List Nat} (hw : ∀ c ∈ w, c < a.toNat) (hl : w.length ≤ 1000) : Ev (fun k => subset_Takes.f k a nx ac (castL w)) (acL ac (runS (stL nx) 0 w)) := by
  have h := Aut.of hg
  have hen := h.ends
  have hn1 := h.n1
  have key : ∀ (d i s : Nat), i + d = w.length → s < nx.length → Ev (fun k => subset_Takes.l0 k (s : Int) (castL w) (w.length : Int) (i : Int) a nx ac) (acL ac (runS (stL nx) s (w.drop i))) := by
    intro d
    induction d with
    | zero =>
      intro i s hi hs
      rw [List.drop_of_length_le (by omega)]
      refine Ev.step (f := fun _ => some (acL ac s)) (fun k => ?_) (Ev.now _)
      simp only [subset_Takes.l0, rdb_nat]
      rw [if_neg (by omega), if_pos (by omega), if_pos (by omega)]
      rfl
    | succ d ih =>
      intro i s hi hs
      have hil : i < w.length := by omega
      obtain ⟨c, hc⟩ : ∃ c, c = w.getD i 0 := ⟨_, rfl⟩
      have hcl : c < a.toNat := by rw [hc]; exact hw _ (getD_in w 0 hil)
      have e : w.drop i = c :: w.drop (i + 1) := by
        rw [List.drop_eq_getElem_cons hil, hc, List.getD_eq_getElem?_getD, List.getElem?_eq_getElem hil]
        rfl
      have hlen := h.len hs
      rw [e]
      refine Ev.step (fun k => ?_) (ih (i + 1) (stL nx s c) (by omega) (h.shuts s c hs hcl))
      simp only [subset_Takes.l0, rd_nat, castL_getD hil, ← hc, rd5_nat, castL_length, h.st hs hcl]
      rw [if_pos (by omega), if_pos (by omega), if_pos (by omega), if_neg (by omega), if_neg (by omega), if_pos (by omega), if_pos (by omega), if_pos (by omega), if_pos (by omega), wadd (by omega) (by omega), nat_succ_cast]
  have h0 := key w.length 0 0 (by omega) (by omega)
  rw [List.drop_zero] at h0
  refine Ev.congr (fun k => ?_) h0
  unfold subset_Takes.f thompson_Good.f
  rw [hg, castL_length]
  rfl

end Go.Proofs.Ytelkjbacdpmnfaa.A
