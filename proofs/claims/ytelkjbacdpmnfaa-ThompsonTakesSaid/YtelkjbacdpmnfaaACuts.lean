/- By a program, out of the translation (wip/myprint.py). -/
import Derived.Test.YtelkjbacdpmnfaaA0
namespace Go.Proofs.Ytelkjbacdpmnfaa.A
open Go.RowKit Go.Proofs.YtelkjbacdpmnfaaW.PrintWords Go.Proofs.YtelkjbacdpmnfaaW.PrintLast Go.Proofs.YtelkjbacdpmnfaaW.PrintMore
attribute [local go_sem] max2_int min2_int max_two min_two max_three min_three max_four min_four   -- for this text's walks alone
set_option linter.unusedVariables false
set_option linter.unusedSimpArgs false

/-! parts of a row of numbers -/
theorem cut_take_ {A : Option Addr} {c : Nat} {L : List Int} (hc : L.length ≤ c) (k : Nat) (hk : k ≤ L.length) :
    (∀ W : World, (Instr.slice 45 (.slice A L.length c) none (some (.int .i64 (k : Int))) none).run Try.prog W = .ok (.slice A (L.take k).length c) W) ∧ (∀ W, Kd.C (Kd.int .i64) W A L.length L → Kd.C (Kd.int .i64) W A (L.take k).length (L.take k)) ∧ (L.take k).length ≤ c := by
  obtain ⟨i0, hi, _, hsz, _⟩ := info_parts info3
  have h := cut_to (P := Try.prog) 45 3 .i64 Try.underlying45 hi A L.length c (k : Int) (by omega) (by omega) hc
  have e : (L.take k).length = ((k : Int)).toNat := by rw [List.length_take]; omega
  rw [← e] at h
  exact ⟨h, fun W hC => Kd.C_take (m := k) hC hk, by rw [List.length_take]; omega⟩
theorem cut_drop_ {A : Option Addr} {c : Nat} {L : List Int} (hc : L.length ≤ c) (k : Nat) (hk : k ≤ L.length) :
    ∃ (A' : Option Addr) (c' : Nat), (∀ W : World, (Instr.slice 45 (.slice A L.length c) (some (.int .i64 (k : Int))) none none).run Try.prog W = .ok (.slice A' (L.drop k).length c') W) ∧ (∀ W, Kd.C (Kd.int .i64) W A L.length L → Kd.C (Kd.int .i64) W A' (L.drop k).length (L.drop k)) ∧ (L.drop k).length ≤ c' := by
  obtain ⟨i0, hi, _, hsz, _⟩ := info_parts info3
  have h := cut_from (P := Try.prog) 45 3 .i64 Try.underlying45 hi 1 hsz A L.length c (k : Int) (by omega) (by omega)
  have e : (L.drop k).length = L.length - ((k : Int)).toNat := by rw [List.length_drop]; omega
  rw [← e] at h
  exact ⟨_, _, h, fun W hC => Kd.C_drop (m := k) hC hk hc, by rw [List.length_drop]; omega⟩
theorem cut_part_ {A : Option Addr} {c : Nat} {L : List Int} (hc : L.length ≤ c) (j k : Nat) (hj : j ≤ k) (hk : k ≤ L.length) :
    ∃ (A' : Option Addr) (c' : Nat), (∀ W : World, (Instr.slice 45 (.slice A L.length c) (some (.int .i64 (j : Int))) (some (.int .i64 (k : Int))) none).run Try.prog W = .ok (.slice A' ((L.take k).drop j).length c') W) ∧ (∀ W, Kd.C (Kd.int .i64) W A L.length L → Kd.C (Kd.int .i64) W A' ((L.take k).drop j).length ((L.take k).drop j)) ∧ ((L.take k).drop j).length ≤ c' := by
  obtain ⟨i0, hi, _, hsz, _⟩ := info_parts info3
  have h := cut_mid (P := Try.prog) 45 3 .i64 .i64 Try.underlying45 hi 1 hsz A L.length c (j : Int) (k : Int) (by omega) (by omega) (by omega) hc
  have e : ((L.take k).drop j).length = ((k : Int)).toNat - ((j : Int)).toNat := by rw [List.length_drop, List.length_take]; omega
  rw [← e] at h
  exact ⟨_, _, h, fun W hC => Kd.C_mid (lo := j) (hi := k) hC hj hk hc, by rw [List.length_drop, List.length_take]; omega⟩
theorem cut_take {A : Option Addr} {c : Nat} {L : List Int} (hc : L.length ≤ c) (k : Nat) (hk : k ≤ L.length) :
    ∃ M : List Int, M = L.take k ∧ (∀ W : World, (Instr.slice 45 (.slice A L.length c) none (some (.int .i64 (k : Int))) none).run Try.prog W = .ok (.slice A M.length c) W) ∧ (∀ W, Kd.C (Kd.int .i64) W A L.length L → Kd.C (Kd.int .i64) W A M.length M) ∧ M.length ≤ c := ⟨_, rfl, cut_take_ hc k hk⟩
theorem cut_drop {A : Option Addr} {c : Nat} {L : List Int} (hc : L.length ≤ c) (k : Nat) (hk : k ≤ L.length) :
    ∃ (M : List Int) (A' : Option Addr) (c' : Nat), M = L.drop k ∧ (∀ W : World, (Instr.slice 45 (.slice A L.length c) (some (.int .i64 (k : Int))) none none).run Try.prog W = .ok (.slice A' M.length c') W) ∧ (∀ W, Kd.C (Kd.int .i64) W A L.length L → Kd.C (Kd.int .i64) W A' M.length M) ∧ M.length ≤ c' := by
  obtain ⟨A', c', h⟩ := cut_drop_ (A := A) hc k hk
  exact ⟨_, A', c', rfl, h⟩
theorem cut_part {A : Option Addr} {c : Nat} {L : List Int} (hc : L.length ≤ c) (j k : Nat) (hj : j ≤ k) (hk : k ≤ L.length) :
    ∃ (M : List Int) (A' : Option Addr) (c' : Nat), M = (L.take k).drop j ∧ (∀ W : World, (Instr.slice 45 (.slice A L.length c) (some (.int .i64 (j : Int))) (some (.int .i64 (k : Int))) none).run Try.prog W = .ok (.slice A' M.length c') W) ∧ (∀ W, Kd.C (Kd.int .i64) W A L.length L → Kd.C (Kd.int .i64) W A' M.length M) ∧ M.length ≤ c' := by
  obtain ⟨A', c', h⟩ := cut_part_ (A := A) hc j k hj hk
  exact ⟨_, A', c', rfl, h⟩

end Go.Proofs.Ytelkjbacdpmnfaa.A
