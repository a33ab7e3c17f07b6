/- Contracts. -/
import Derived.Test.YtelkjbacdpmnfaaB0
import Derived.Test.YtelkjbacdpmnfaaBEqFunc
import Derived.Test.YtelkjbacdpmnfaaBSameWords
import Derived.Test.YtelkjbacdpmnfaaBSlicesEqualBoolBool
namespace Go.Proofs.Ytelkjbacdpmnfaa.A
open Go.RowKit Go.W_.PrintWords Go.W_.PrintLast Go.W_.PrintMore
attribute [local go_sem] max2_int min2_int max_two min_two max_three min_three max_four min_four
set_option linter.unusedVariables false
set_option linter.unusedSimpArgs false

/-- Automata that are not too large to be held together. -/
def sameSmall (l0_1 : List (List Int)) (l0_2 : List Bool) : Prop := rowsSmall l0_1 ∧ l0_2.length ≤ 1000000
instance (l0_1 : List (List Int)) (l0_2 : List Bool) : Decidable (sameSmall l0_1 l0_2) := by unfold sameSmall rowsSmall; infer_instance
def number_Same.f (a0_0 : Int) (l0_1 : List (List Int)) (l0_2 : List Bool) (a1_0 : Int) (l1_1 : List (List Int)) (l1_2 : List Bool) : Option (Bool) := if sameSmall l0_1 l0_2 ∧ sameSmall l1_1 l1_2 then some (decide (a0_0 = a1_0) && (decide (l0_2 = l1_2) && decide (l0_1 = l1_1))) else none
set_option maxHeartbeats 8000000 in
set_option maxRecDepth 100000 in
theorem number_Same.calls (a0_0 : Int) (A0_1 : Option Addr) (c0_1 : Nat) (l0_1 : List (List Int)) (A0_2 : Option Addr) (c0_2 : Nat) (l0_2 : List Bool) (a1_0 : Int) (A1_1 : Option Addr) (c1_1 : Nat) (l1_1 : List (List Int)) (A1_2 : Option Addr) (c1_2 : Nat) (l1_2 : List Bool) (r : Bool) (w : World) (hr0_1 : Kd.C (Kd.slice 3 (Kd.int .i64)) w A0_1 l0_1.length l0_1) (hc0_1 : l0_1.length ≤ c0_1) (hr0_2 : Kd.C Kd.bool w A0_2 l0_2.length l0_2) (hc0_2 : l0_2.length ≤ c0_2) (hr1_1 : Kd.C (Kd.slice 3 (Kd.int .i64)) w A1_1 l1_1.length l1_1) (hc1_1 : l1_1.length ≤ c1_1) (hr1_2 : Kd.C Kd.bool w A1_2 l1_2.length l1_2) (hc1_2 : l1_2.length ≤ c1_2) (h : number_Same.f a0_0 l0_1 l0_2 a1_0 l1_1 l1_2 = some r) :
  Calls Try.prog 68 #[.agg #[.int .i64 a0_0, .slice A0_1 l0_1.length c0_1, .slice A0_2 l0_2.length c0_2], .agg #[.int .i64 a1_0, .slice A1_1 l1_1.length c1_1, .slice A1_2 l1_2.length c1_2]] w fun e w' => e = .returned (.bool r) ∧ Below w.heap.size w w' := by
 unfold number_Same.f at h
 by_cases hs : sameSmall l0_1 l0_2 ∧ sameSmall l1_1 l1_2
 rotate_left
 ·rw [if_neg hs] at h
  cases h
 rw [if_pos hs] at h
 obtain rfl := Option.some.inj h
 clear h
 have HS := Q0.mk hs
 clear hs
 obtain ⟨kb, hkb⟩ := eqBools_ev l0_2 l1_2 HS.1.1.2
 have HKB := Q0.mk hkb
 have R1 := Q0.mk hr0_1
 have R2 := Q0.mk hr0_2
 have R3 := Q0.mk hr1_1
 have R4 := Q0.mk hr1_2
 have L2 := Q0.mk hc0_2
 have L4 := Q0.mk hc1_2
 clear hkb hr0_1 hr0_2 hr1_1 hr1_2 hc0_1 hc0_2 hc1_1 hc1_2
 have hu25 := Try.underlying25
 obtain ⟨W, hW⟩ : ∃ W, (w.alloc (.cells #[.int .i64 a0_0, .slice A0_1 l0_1.length c0_1, .slice A0_2 l0_2.length c0_2] 25)).alloc (.cells #[.int .i64 a1_0, .slice A1_1 l1_1.length c1_1, .slice A1_2 l1_2.length c1_2] 25) = W := ⟨_, rfl⟩
 have HB : Q0 (Below w.heap.size w W) := ⟨by rw [← hW]; exact ba (ba (Below.refl _ _) _) _⟩
 have HB1 : Q0 (W.heap[w.heap.size]? = some (.cells #[.int .i64 a0_0, .slice A0_1 l0_1.length c0_1, .slice A0_2 l0_2.length c0_2] 25 (0, 0))) := ⟨by rw [← hW]; exact bA (bn w _) _⟩
 have HB2 : Q0 (W.heap[w.heap.size + 1]? = some (.cells #[.int .i64 a1_0, .slice A1_1 l1_1.length c1_1, .slice A1_2 l1_2.length c1_2] 25 (0, 0))) := ⟨by rw [← hW]; have h_ := bn (w.alloc (.cells #[.int .i64 a0_0, .slice A0_1 l0_1.length c0_1, .slice A0_2 l0_2.length c0_2] 25)) (.cells #[.int .i64 a1_0, .slice A1_1 l1_1.length c1_1, .slice A1_2 l1_2.length c1_2] 25); rw [World.size_alloc] at h_; exact h_⟩
 have a0 : W.cell? ⟨w.heap.size, 0, none⟩ = some (.int .i64 a0_0) := (bc HB1.1 0).trans rfl
 have a1 : W.cell? ⟨w.heap.size, 1, none⟩ = some (.slice A0_1 l0_1.length c0_1) := (bc HB1.1 1).trans rfl
 have a2 : W.cell? ⟨w.heap.size, 2, none⟩ = some (.slice A0_2 l0_2.length c0_2) := (bc HB1.1 2).trans rfl
 have b0 : W.cell? ⟨w.heap.size + 1, 0, none⟩ = some (.int .i64 a1_0) := (bc HB2.1 0).trans rfl
 have b1 : W.cell? ⟨w.heap.size + 1, 1, none⟩ = some (.slice A1_1 l1_1.length c1_1) := (bc HB2.1 1).trans rfl
 have b2 : W.cell? ⟨w.heap.size + 1, 2, none⟩ = some (.slice A1_2 l1_2.length c1_2) := (bc HB2.1 2).trans rfl
 by_cases q1 : a0_0 = a1_0
 ·have q1b : (a0_0 == a1_0) = true := beq_iff_eq.mpr q1
  have HQ1 := Q0.mk q1
  clear q1
  by_cases q2 : l0_2 = l1_2
  ·have HQ2 := Q0.mk (decide_eq_true q2)
   clear q2
   go_enter Try.func68, Try.ntmps68
   go_wp2_with (first | (go_at_call 105; have hF_ := HKB.1; clear HKB; refine (slices_Equal_bool_bool.calls kb A0_2 c0_2 l0_2 A1_2 c1_2 l1_2 _ _ (Kd.C_below R2.1 HB.1) L2.1 (Kd.C_below R4.1 HB.1) L4.1 hF_).mono ?_; clear hF_; rintro e W1 ⟨rfl, hd1⟩; rw [HQ2.1]; have HD := Q0.mk hd1; clear hd1; have a1' : W1.cell? ⟨w.heap.size, 1, none⟩ = some (.slice A0_1 l0_1.length c0_1) := (HD.1.below.cell (cell_lt a1)).trans a1; have b1' : W1.cell? ⟨w.heap.size + 1, 1, none⟩ = some (.slice A1_1 l1_1.length c1_1) := (HD.1.below.cell (cell_lt b1)).trans b1; clear a0 a1 a2 b0 b1 b2) | (go_at_call 106; refine (eqf106 A0_1 A1_1 c0_1 c1_1 l0_1 l1_1 _ HS.1.1.1 HS.1.2.1 (Kd.C_below R1.1 (bsz HB.1 HD.1.below)) (Kd.C_below R3.1 (bsz HB.1 HD.1.below))).mono ?_; rintro e W2 ⟨rfl, hb2⟩))
   go_ret
   exact ⟨by rw [decide_eq_true HQ1.1, HQ2.1, Bool.true_and, Bool.true_and]; rfl, bsz (bsz HB.1 HD.1.below) hb2⟩
  ·have HQ2 := Q0.mk (decide_eq_false q2)
   clear q2
   go_enter Try.func68, Try.ntmps68
   go_wp2_with (first | (go_at_call 105; have hF_ := HKB.1; clear HKB; refine (slices_Equal_bool_bool.calls kb A0_2 c0_2 l0_2 A1_2 c1_2 l1_2 _ _ (Kd.C_below R2.1 HB.1) L2.1 (Kd.C_below R4.1 HB.1) L4.1 hF_).mono ?_; clear hF_; rintro e W1 ⟨rfl, hd1⟩; rw [HQ2.1]; have HD := Q0.mk hd1; clear hd1; have a1' : W1.cell? ⟨w.heap.size, 1, none⟩ = some (.slice A0_1 l0_1.length c0_1) := (HD.1.below.cell (cell_lt a1)).trans a1; have b1' : W1.cell? ⟨w.heap.size + 1, 1, none⟩ = some (.slice A1_1 l1_1.length c1_1) := (HD.1.below.cell (cell_lt b1)).trans b1; clear a0 a1 a2 b0 b1 b2))
   go_ret
   exact ⟨by rw [decide_eq_true HQ1.1, HQ2.1, Bool.false_and, Bool.and_false]; rfl, bsz HB.1 HD.1.below⟩
 ·have q1b : (a0_0 == a1_0) = false := beq_eq_false_iff_ne.mpr q1
  have HQ1 := Q0.mk q1
  clear q1
  go_enter Try.func68, Try.ntmps68
  go_wp2
  go_ret
  exact ⟨by rw [decide_eq_false HQ1.1, Bool.false_and]; rfl, HB.1⟩

end Go.Proofs.Ytelkjbacdpmnfaa.A
