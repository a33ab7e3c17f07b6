/- By a program, out of the translation (wip/myprint.py). -/
import Derived.Test.YtelkjbacdpmnfaaB0
import Derived.Test.YtelkjbacdpmnfaaBPlainBase
import Derived.Test.YtelkjbacdpmnfaaBThompsonGood
namespace Go.Proofs.Ytelkjbacdpmnfaa.A
open Go.RowKit Go.W_.PrintWords Go.W_.PrintLast Go.W_.PrintMore
attribute [local go_sem] max2_int min2_int max_two min_two max_three min_three max_four min_four
set_option linter.unusedVariables false
set_option linter.unusedSimpArgs false

def prodMost (most : Int) : Int := if 1000 < most then 1000 else most
abbrev prodSt (nx mx : List (List Int)) : Nat × Nat → Nat → Nat × Nat := stP (stL nx) (stL mx)
abbrev prodEnd (E : Bool → Bool → Bool) (ac bc : List Bool) (p : Nat × Nat) : Bool := E (acL ac p.1) (acL bc p.2)
def prodRes (E : Bool → Bool → Bool) (a : Int) (nx : List (List Int)) (ac : List Bool) (mx : List (List Int)) (bc : List Bool) (m : Int) (M : List (Nat × Nat)) : Int × List (List Int) × List Bool × Int := if (M.length : Int) > m then (0, [], [], 14) else (a, numNext a.toNat (prodSt nx mx) M, M.map (prodEnd E ac bc), 0)
def prodF (E : Bool → Bool → Bool) (k : Nat) (a : Int) (nx : List (List Int)) (ac : List Bool) (b : Int) (mx : List (List Int)) (bc : List Bool) (most : Int) : Option (Int × List (List Int) × List Bool × Int) :=
  if goodB a nx ac = true then (if goodB b mx bc = true then (if a = b then (prodRun a.toNat (prodSt nx mx) (prodMost most) k [(0, 0)] 0).bind fun M => some (prodRes E a nx ac mx bc (prodMost most) M) else some (0, [], [], 1)) else some (0, [], [], 1)) else some (0, [], [], 1)
theorem prodF_mono (E : Bool → Bool → Bool) (k : Nat) (a : Int) (nx : List (List Int)) (ac : List Bool) (b : Int) (mx : List (List Int)) (bc : List Bool) (most : Int) : LeO (prodF E k a nx ac b mx bc most) (prodF E (k + 1) a nx ac b mx bc most) := by
  unfold prodF
  split
  · split
    · split
      · refine LeO.bind ?_ fun _ => LeO.refl _
        intro r hr
        exact prodRun_mono _ _ _ _ _ _ _ hr
      · exact LeO.refl _
    · exact LeO.refl _
  · exact LeO.refl _

end Go.Proofs.Ytelkjbacdpmnfaa.A
