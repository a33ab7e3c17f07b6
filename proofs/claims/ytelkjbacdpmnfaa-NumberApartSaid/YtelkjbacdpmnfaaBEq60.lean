/- By a program, out of the translation (wip/myprint.py). -/
import Derived.Test.YtelkjbacdpmnfaaB0
import Derived.ChangeKeysEq
namespace Go.Proofs.Ytelkjbacdpmnfaa.A
open Go.RowKit Go.W_.PrintWords Go.W_.PrintLast Go.W_.PrintMore
attribute [local go_sem] max2_int min2_int max_two min_two max_three min_three max_four min_four
set_option linter.unusedVariables false
set_option linter.unusedSimpArgs false

theorem under60 : Try.prog.underlying 60 = some (.array 2 3) := by kernel_rfl
theorem eqA60 (d : Nat) (w : World) (x0 y0 : Int) (x1 y1 : Int) :
    (Op.equalIn (d + 2) 60 (.agg #[.int .i64 x0, .int .i64 x1]) (.agg #[.int .i64 y0, .int .i64 y1])).run Try.prog w = .ok (x0 == y0 && (x1 == y1)) w := by
  have hi : ∃ i, Try.prog.info? 3 = some i := by
    cases h : Try.prog.info? 3 with
    | none => exact absurd h (by have h2 : (Try.prog.info? 3).isSome = true := by kernel_rfl
                                 intro h3; rw [h3] at h2; cases h2)
    | some i => exact ⟨i, rfl⟩
  obtain ⟨i, hi⟩ := hi
  rw [Go.run_equalIn_array (d := d + 1) (hu := under60) (hi := hi)]
  have hc : Try.prog.cellsOf 3 = 1 := by kernel_rfl
  have e : List.range 2 = [0, 1] := rfl
  rw [hc, e]
  simp only [Op.eqItems]
  go_simp
  by_cases h0 : x0 = y0 <;> by_cases h1 : x1 = y1 <;> simp [h0, h1]

end Go.Proofs.Ytelkjbacdpmnfaa.A
