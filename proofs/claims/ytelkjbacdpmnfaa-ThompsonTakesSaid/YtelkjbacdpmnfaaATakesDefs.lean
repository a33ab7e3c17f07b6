/- By a program, out of the translation (wip/myprint.py). -/
import Derived.Test.YtelkjbacdpmnfaaA0
namespace Go.Proofs.Ytelkjbacdpmnfaa.A
open Go.RowKit Go.Proofs.YtelkjbacdpmnfaaW.PrintWords Go.Proofs.YtelkjbacdpmnfaaW.PrintLast Go.Proofs.YtelkjbacdpmnfaaW.PrintMore
attribute [local go_sem] max2_int min2_int max_two min_two max_three min_three max_four min_four   -- for this text's walks alone
set_option linter.unusedVariables false
set_option linter.unusedSimpArgs false

/-! what the law ThompsonTakes reckons: a row cut in two; rows of one automaton again and again -/
def catB (ta tb : Nat → Nat → Bool) (n i : Nat) : Bool := (List.range i).any fun q => ta 0 q && tb q n
def agStep (ta : Nat → Nat → Bool) (G : List Bool) (k j : Nat) : List Bool := G.set k (G.getD k false || (List.range j).any fun q => G.getD q false && ta q k)
def agains (ta : Nat → Nat → Bool) (n : Nat) : Nat → List Bool
  | 0 => (List.replicate (n + 1) false).set 0 true
  | k + 1 => agStep ta (agains ta n k) k k
theorem agains_length (ta : Nat → Nat → Bool) (n : Nat) : ∀ k, (agains ta n k).length = n + 1
  | 0 => by simp [agains]
  | k + 1 => by simp [agains, agStep, agains_length ta n k]
theorem agStep_length (ta : Nat → Nat → Bool) (G : List Bool) (k j : Nat) : (agStep ta G k j).length = G.length := by simp [agStep]
theorem agStep_zero (ta : Nat → Nat → Bool) (G : List Bool) (k : Nat) (hk : k < G.length) : agStep ta G k 0 = G := by
  simp only [agStep, List.range_zero, List.any_nil, Bool.or_false]
  rw [List.getD_eq_getElem?_getD, List.getElem?_eq_getElem hk]
  simp
theorem agStep_getD_ne (ta : Nat → Nat → Bool) (G : List Bool) (k j q : Nat) (h : q ≠ k) : (agStep ta G k j).getD q false = G.getD q false := by
  simp [agStep, List.getD_eq_getElem?_getD, List.getElem?_set_ne h.symm]
theorem agStep_getD (ta : Nat → Nat → Bool) (G : List Bool) (k j : Nat) (hk : k < G.length) : (agStep ta G k j).getD k false = (G.getD k false || (List.range j).any fun q => G.getD q false && ta q k) := by
  simp [agStep, List.getD_eq_getElem?_getD, hk]
theorem agStep_succ (ta : Nat → Nat → Bool) (G : List Bool) (k j : Nat) (hk : k < G.length) (hj : j < k) : agStep ta G k (j + 1) = (agStep ta G k j).set k ((agStep ta G k j).getD k false || ((agStep ta G k j).getD j false && ta j k)) := by
  rw [agStep_getD ta G k j hk, agStep_getD_ne ta G k j j (by omega)]
  simp [agStep, List.range_succ, Bool.or_assoc]
theorem catB_succ (ta tb : Nat → Nat → Bool) (n i : Nat) : catB ta tb n (i + 1) = (catB ta tb n i || (ta 0 i && tb i n)) := by simp [catB, List.range_succ]
theorem rdOf_nat (xs : List Bool) (i : Nat) : rdOf false xs (i : Int) = xs.getD i false := by unfold rdOf; rw [Int.toNat_natCast]

end Go.Proofs.Ytelkjbacdpmnfaa.A
