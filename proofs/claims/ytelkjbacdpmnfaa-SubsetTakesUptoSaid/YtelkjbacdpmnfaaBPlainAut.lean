/- Contracts. -/
import Derived.Test.YtelkjbacdpmnfaaB0
import Derived.Test.YtelkjbacdpmnfaaBShort
import Derived.Test.YtelkjbacdpmnfaaBWordsB
import Derived.Test.YtelkjbacdpmnfaaBThompsonGood
import Derived.Test.YtelkjbacdpmnfaaBPlainBase
import Derived.Test.YtelkjbacdpmnfaaBPlainGood




namespace Go.Proofs.Ytelkjbacdpmnfaa.A
open Go.RowKit Go.W_.PrintWords Go.W_.PrintLast Go.W_.PrintMore
attribute [local go_sem] max2_int min2_int max_two min_two max_three min_three max_four min_four
set_option linter.unusedVariables false
set_option linter.unusedSimpArgs false

structure Aut (a : Int) (nx : List (List Int)) (ac : List Bool) : Prop where
 a1 : 1 ≤ a
 a2 : a ≤ 64
 n1 : 1 ≤ nx.length
 n2 : nx.length ≤ 1000
 ends : ac.length = nx.length
 rows : ∀ s, s < nx.length → ((nx.getD s []).length : Int) = a
 to_ : ∀ s c : Nat, s < nx.length → (c : Int) < a → 0 ≤ (nx.getD s []).getD c 0 ∧ (nx.getD s []).getD c 0 < nx.length
theorem getD_in {α : Type} (l : List α) (d : α) {i : Nat} (h : i < l.length) : l.getD i d ∈ l := by
 rw [List.getD_eq_getElem?_getD, List.getElem?_eq_getElem h]
 exact List.getElem_mem h
theorem Aut.of {a : Int} {nx : List (List Int)} {ac : List Bool} (h : goodB a nx ac = true) : Aut a nx ac := by
 unfold goodB at h
 simp only [Bool.and_eq_true, decide_eq_true_eq, Bool.not_eq_true', List.any_eq_false] at h
 obtain ⟨⟨⟨⟨⟨h1, h2⟩, h3⟩, h4⟩, h5⟩, h6⟩ := h
 have key : ∀ l ∈ nx, (l.length : Int) = a ∧ ∀ x ∈ l, 0 ≤ x ∧ x < nx.length := by
  intro l hl
  have h7 := h6 l hl
  unfold BadRow at h7
  simp only [Bool.or_eq_true, Bool.not_eq_true', decide_eq_false_iff_not, not_or, Decidable.not_not, List.any_eq_true, not_exists, not_and] at h7
  refine ⟨h7.1, fun x hx => ?_⟩
  have h8 := h7.2 x hx
  unfold OutOf at h8
  simp only [Bool.or_eq_true, decide_eq_true_eq, not_or] at h8
  omega
 refine ⟨h1, h2, by omega, by omega, by omega, fun s hs => (key _ (getD_in nx [] hs)).1, fun s c hs hc => ?_⟩
 obtain ⟨e, hx⟩ := key _ (getD_in nx [] hs)
 exact hx _ (getD_in _ 0 (by omega))
section
variable {a : Int} {nx : List (List Int)} {ac : List Bool}
theorem Aut.st (h : Aut a nx ac) {s c : Nat} (hs : s < nx.length) (hc : c < a.toNat) : (nx.getD s []).getD c 0 = ((stL nx s c : Nat) : Int) := by
 have := h.to_ s c hs (by omega)
 unfold stL
 omega
theorem Aut.shuts (h : Aut a nx ac) : Shuts nx.length a.toNat (stL nx) := by
 intro s c hs hc
 have := h.to_ s c hs (by omega)
 unfold stL
 omega
theorem Aut.len (h : Aut a nx ac) {s : Nat} (hs : s < nx.length) : (nx.getD s []).length = a.toNat := by
 have := h.rows s hs
 omega
end
def castL (l : List Nat) : List Int := l.map fun (s : Nat) => (s : Int)
theorem castL_length (l : List Nat) : (castL l).length = l.length := by simp [castL]
theorem castL_snoc (l : List Nat) (s : Nat) : castL (l ++ [s]) = castL l ++ [(s : Int)] := by simp [castL]
theorem castL_getD {l : List Nat} {i : Nat} (h : i < l.length) : (castL l).getD i 0 = ((l.getD i 0 : Nat) : Int) := by
 unfold castL
 rw [List.getD_eq_getElem?_getD, List.getD_eq_getElem?_getD, List.getElem?_map, List.getElem?_eq_getElem h]
 rfl
end Go.Proofs.Ytelkjbacdpmnfaa.A
