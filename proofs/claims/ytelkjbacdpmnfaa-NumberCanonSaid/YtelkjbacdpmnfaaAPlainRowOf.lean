/- By a program, out of the translation (wip/myprint.py). -/
import Derived.Test.YtelkjbacdpmnfaaA0
import Derived.Test.YtelkjbacdpmnfaaAPlainAut
import Derived.Test.YtelkjbacdpmnfaaAPlainGood
namespace Go.Proofs.Ytelkjbacdpmnfaa.A
open Go.RowKit Go.Proofs.YtelkjbacdpmnfaaW.PrintWords Go.Proofs.YtelkjbacdpmnfaaW.PrintLast Go.Proofs.YtelkjbacdpmnfaaW.PrintMore
attribute [local go_sem] max2_int min2_int max_two min_two max_three min_three max_four min_four   -- for this text's walks alone
set_option linter.unusedVariables false
set_option linter.unusedSimpArgs false

/-! a row of bytes as a row of letters -/
def rowW (a : Int) (x : List Int) : List Nat := x.map fun x => (Int.tmod (wrap64 x) a).toNat
theorem rowW_length (a : Int) (x : List Int) : (rowW a x).length = x.length := by simp [rowW]
theorem byte_facts {x : Int} (h : (Lit.int .u8 x).wf = true) : wrap64 x = x ∧ 0 ≤ x := by
  simp only [Lit.wf, Bool.and_eq_true, decide_eq_true_eq] at h
  have h4 : (0 : Int) ≤ x := h.1
  have h5 : x ≤ (255 : Int) := h.2
  exact ⟨wself (by omega) (by omega), h4⟩
theorem rowW_lt {a : Int} {x : List Int} (ha : 1 ≤ a) (hx : ∀ y ∈ x, (Lit.int .u8 y).wf = true) : ∀ c ∈ rowW a x, c < a.toNat := by
  intro c hc
  obtain ⟨y, hm, rfl⟩ := List.mem_map.1 hc
  obtain ⟨e, h0⟩ := byte_facts (hx y hm)
  rw [e]
  have := Int.tmod_lt_of_pos y (show 0 < a by omega)
  have := Int.tmod_nonneg a h0
  omega
theorem rowW_step {a : Int} {x : List Int} (ha : 1 ≤ a) (hx : ∀ y ∈ x, (Lit.int .u8 y).wf = true) {i : Nat} (hi : i < x.length) : castL ((rowW a x).take (i + 1)) = castL ((rowW a x).take i) ++ [Int.tmod (wrap64 (x.getD i 0)) a] := by
  rw [List.take_succ_eq_append_getElem (by rw [rowW_length]; omega), castL_snoc]
  congr 2
  simp only [rowW, List.getElem_map]
  obtain ⟨e, h0⟩ := byte_facts (hx x[i] (List.getElem_mem hi))
  rw [List.getD_eq_getElem?_getD, List.getElem?_eq_getElem hi]
  simp only [Option.getD_some]
  rw [e]
  have := Int.tmod_nonneg a h0
  omega

end Go.Proofs.Ytelkjbacdpmnfaa.A
