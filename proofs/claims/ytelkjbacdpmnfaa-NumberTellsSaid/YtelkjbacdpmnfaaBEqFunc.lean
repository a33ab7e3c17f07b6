/- Contracts. -/
import Derived.Test.YtelkjbacdpmnfaaB0
import Derived.Test.YtelkjbacdpmnfaaBSameWords
import Derived.Test.YtelkjbacdpmnfaaBSlicesEqualBoolBool
namespace Go.Proofs.Ytelkjbacdpmnfaa.A
open Go.RowKit Go.W_.PrintWords Go.W_.PrintLast Go.W_.PrintMore
attribute [local go_sem] max2_int min2_int max_two min_two max_three min_three max_four min_four
set_option linter.unusedVariables false
set_option linter.unusedSimpArgs false

section
/-- Rows that are not too long. -/
def rowsSmall (nx : List (List Int)) : Prop := nx.length ≤ 1000000 ∧ ∀ r ∈ nx, r.length ≤ 1000000
theorem rowsSmall.row {nx : List (List Int)} (h : rowsSmall nx) (i : Nat) : (rd_L5 nx (i : Int)).length ≤ 1000000 := by
 unfold rd_L5
 have e : (i : Int).toNat = i := by omega
 rw [e, List.getD_eq_getElem?_getD]
 by_cases hi : i < nx.length
 ·rw [List.getElem?_eq_getElem hi]
  exact h.2 _ (List.getElem_mem _)
 ·rw [List.getElem?_eq_none (by omega)]
  simp
theorem rd_L5_take {xs ys : List (List Int)} {i : Nat} (hx : i < xs.length) (hy : i < ys.length) (ht : xs.take i = ys.take i) (h : rd_L5 xs (i : Int) = rd_L5 ys (i : Int)) : xs.take (i + 1) = ys.take (i + 1) := by
 unfold rd_L5 at h
 have e : (i : Int).toNat = i := by omega
 rw [e, List.getD_eq_getElem?_getD, List.getD_eq_getElem?_getD, List.getElem?_eq_getElem hx, List.getElem?_eq_getElem hy] at h
 simp only [Option.getD_some] at h
 rw [List.take_add_one, List.take_add_one, List.getElem?_eq_getElem hx, List.getElem?_eq_getElem hy, ht, h]
set_option maxRecDepth 100000 in
set_option maxHeartbeats 4000000 in
theorem eqf106 (A B : Option Addr) (c d : Nat) (xs ys : List (List Int)) (w : World) (hx : rowsSmall xs) (hy : rowsSmall ys) (hA : Kd.C (Kd.slice 3 (Kd.int .i64)) w A xs.length xs) (hB : Kd.C (Kd.slice 3 (Kd.int .i64)) w B ys.length ys) :
  Calls Try.prog 106 #[.slice A xs.length c, .slice B ys.length d, .func (.func 107) #[] #[]] w fun e w' => e = .returned (.bool (decide (xs = ys))) ∧ Below w.heap.size w w' := by
 have HX := Q0.mk hx
 have HY := Q0.mk hy
 have HA := Q0.mk hA
 have HB := Q0.mk hB
 clear hx hy hA hB
 have hu22 := Try.underlying22
 have hu45 := Try.underlying45
 by_cases hnm : xs.length = ys.length
 ·have q1 : ((xs.length : Int) == (ys.length : Int)) = true := beq_iff_eq.mpr (by omega)
  have q2 : ((xs.length : Int) != (ys.length : Int)) = false := bne_eq_false_iff_eq.mpr (by omega)
  have HN := Q0.mk hnm
  clear hnm
  go_enter Try.func106, Try.ntmps106
  go_wp2
  go_loopw [17] (fun v wr => ∃ (i : Nat), i ≤ xs.length ∧ v = .int .i64 (i : Int) ∧ Q0 (xs.take i = ys.take i) ∧ Q0 (Below w.heap.size w wr)) (fun v _ => xs.length - (intOf v).toNat)
  case atStart => exact ⟨0, by omega, rfl, ⟨by simp⟩, ⟨Below.refl _ _⟩⟩
  case round =>
   obtain ⟨i, hin, rfl, HT, HW⟩ := hrel
   by_cases hlt : i < xs.length
   ·have q0 : decide ((i : Int) < (xs.length : Int)) = true := decide_eq_true (by omega)
    have hlt2 : i < ys.length := by have := HN.1; omega
    obtain ⟨ad, A1, c1, e1, hx1, hl1, hc1⟩ := at_L5 (Kd.C_below HA.1 HW.1) (i : Int) (by omega) (by omega)
    cases e1
    obtain ⟨bd, B1, d1, e2, hx2, hl2, hc2⟩ := at_L5 (Kd.C_below HB.1 HW.1) (i : Int) (by omega) (by omega)
    cases e2
    have hw1 : wrap64 ((i : Int) + 1) = (i : Int) + 1 := by have := HX.1.1; unfold wrap64; omega
    have HW1 := Q0.mk hw1
    have F := Q0.mk (And.intro hl1 (And.intro hc1 (And.intro hl2 hc2)))
    clear hw1 hl1 hc1 hl2 hc2
    have ep : (i : Int).toNat = i := by omega
    rw [ep] at hx1 hx2
    have p0 : decide (0 ≤ (i : Int)) = true := decide_eq_true (by omega)
    have p1 : decide ((i : Int) < (ys.length : Int)) = true := decide_eq_true (by omega)
    by_cases hq : rd_L5 xs (i : Int) = rd_L5 ys (i : Int)
    ·have hqd : decide (rd_L5 xs (i : Int) = rd_L5 ys (i : Int)) = true := decide_eq_true hq
     have HQ := Q0.mk hq
     have HQD := Q0.mk hqd
     clear hq hqd
     go_wp2_with (go_at_call 107; go_loud (refine (same107 A1 B1 c1 d1 (rd_L5 xs (i : Int)) (rd_L5 ys (i : Int)) wr (HX.1.row i) (HY.1.row i) F.1.1 F.1.2.2.1 F.1.2.1 F.1.2.2.2).mono ?_; rintro e w1 ⟨rfl, hb1⟩; rw [HQD.1]))
     rw [HW1.1]
     go_roundw
     case rel => exact ⟨i + 1, hlt, rfl, ⟨rd_L5_take hlt hlt2 HT.1 HQ.1⟩, ⟨bsz HW.1 hb1⟩⟩
     case measure => simp [intOf]; omega
    ·have hqd : decide (rd_L5 xs (i : Int) = rd_L5 ys (i : Int)) = false := decide_eq_false hq
     have HQ := Q0.mk hq
     have HQD := Q0.mk hqd
     clear hq hqd
     go_wp2_with (go_at_call 107; go_loud (refine (same107 A1 B1 c1 d1 (rd_L5 xs (i : Int)) (rd_L5 ys (i : Int)) wr (HX.1.row i) (HY.1.row i) F.1.1 F.1.2.2.1 F.1.2.1 F.1.2.2.2).mono ?_; rintro e w1 ⟨rfl, hb1⟩; rw [HQD.1]))
     go_ret
     exact ⟨by rw [decide_eq_false (fun he => HQ.1 (by rw [he]))]; rfl, bsz HW.1 hb1⟩
   ·have q0 : decide ((i : Int) < (xs.length : Int)) = false := decide_eq_false (by omega)
    go_wp2
    go_ret
    have ht := HT.1
    have e : i = xs.length := by omega
    rw [e, List.take_length, HN.1, List.take_length] at ht
    exact ⟨by rw [decide_eq_true ht]; rfl, HW.1⟩
 ·have hne : ((xs.length : Int) == (ys.length : Int)) = false := beq_eq_false_iff_ne.mpr (by omega)
  have hne2 : ((xs.length : Int) != (ys.length : Int)) = true := bne_iff_ne.mpr (by omega)
  go_enter Try.func106, Try.ntmps106
  go_wp2
  go_ret
  exact ⟨by rw [decide_eq_false (fun he => hnm (by rw [he]))]; rfl, Below.refl _ _⟩
/-- slices.Equal over what is true or false. -/
theorem eqBools_ev (xs ys : List Bool) (hx : xs.length ≤ 1000000) : ∃ k, slices_Equal_bool_bool.f k xs ys = some (decide (xs = ys)) := by
 by_cases hl : xs.length = ys.length
 ·have hr : ∀ d i, i + d = xs.length → xs.take i = ys.take i → slices_Equal_bool_bool.l0 (d + 1) xs ys (xs.length : Int) (i : Int) = some (decide (xs = ys)) := by
   intro d
   induction d with
   | zero =>
    intro i hi ht
    simp only [slices_Equal_bool_bool.l0]
    rw [if_neg (by omega)]
    have e : i = xs.length := by omega
    rw [e, List.take_length, hl, List.take_length] at ht
    rw [decide_eq_true ht]
   | succ d ih =>
    intro i hi ht
    simp only [slices_Equal_bool_bool.l0]
    rw [if_pos (by omega), if_pos (by omega), if_pos (by omega), if_pos (by omega)]
    have e : (i : Int).toNat = i := by omega
    have hx2 : i < xs.length := by omega
    have hy2 : i < ys.length := by omega
    have ex : rdOf false xs (i : Int) = xs[i] := by simp [rdOf, e, List.getD_eq_getElem?_getD, List.getElem?_eq_getElem hx2]
    have ey : rdOf false ys (i : Int) = ys[i] := by simp [rdOf, e, List.getD_eq_getElem?_getD, List.getElem?_eq_getElem hy2]
    rw [ex, ey]
    by_cases hq : xs[i] = ys[i]
    ·rw [if_neg (by simp [hq])]
     have hw : wrap64 ((i : Int) + 1) = ((i + 1 : Nat) : Int) := by unfold wrap64; omega
     rw [hw]
     refine ih (i + 1) (by omega) ?_
     rw [List.take_add_one, List.take_add_one, List.getElem?_eq_getElem hx2, List.getElem?_eq_getElem hy2, ht, hq]
    ·rw [if_pos (by simpa using hq)]
     rw [decide_eq_false (fun he => hq (by simp only [he]))]
  refine ⟨xs.length + 1, ?_⟩
  unfold slices_Equal_bool_bool.f
  rw [if_pos (by omega)]
  exact hr xs.length 0 (by omega) (by simp)
 ·refine ⟨0, ?_⟩
  unfold slices_Equal_bool_bool.f
  rw [if_neg (by omega), decide_eq_false (fun he => hl (by rw [he]))]
end

end Go.Proofs.Ytelkjbacdpmnfaa.A
