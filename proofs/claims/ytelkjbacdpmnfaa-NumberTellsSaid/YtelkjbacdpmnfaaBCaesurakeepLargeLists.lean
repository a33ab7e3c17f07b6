/- Contracts. -/
import Derived.Test.YtelkjbacdpmnfaaB0
namespace Go.Proofs.Ytelkjbacdpmnfaa.A
open Go.RowKit Go.W_.PrintWords Go.W_.PrintLast Go.W_.PrintMore
attribute [local go_sem] max2_int min2_int max_two min_two max_three min_three max_four min_four
set_option linter.unusedVariables false
set_option linter.unusedSimpArgs false

def ck_LargeLists.l0 : Nat → List (List Int) → Int → Int → Int → Option (Bool)
 | 0, _, _, _, _ => none
 | k + 1, x0, x1, x5, x6 => if x6 < (x0.length : Int) then (if x5 ≤ x1 then (if 0 ≤ x6 then (ck_LargeLists.l0 k x0 x1 (wrap64 (x5 + (wrap64 (1 + (mn ((rd_L5 x0 x6).length : Int) x1))))) (wrap64 (x6 + 1))) else (none)) else (some (decide (x5 > x1)))) else (some (decide (x5 > x1)))
def ck_LargeLists.f (k : Nat) (l0 : List (List Int)) (a1 : Int) : Option (Bool) := ck_LargeLists.l0 k l0 a1 0 0
theorem ck_LargeLists.mono_l : ∀ k, (∀ y0 y1 y2 y3, LeO (ck_LargeLists.l0 k y0 y1 y2 y3) (ck_LargeLists.l0 (k + 1) y0 y1 y2 y3))
 | 0 => fun _ _ _ _ r h => by simp [ck_LargeLists.l0] at h
 | k + 1 => by
  have ih0 := ck_LargeLists.mono_l k
  ·intro y0 y1 y2 y3
   unfold ck_LargeLists.l0
   repeat' first
   | (with_reducible exact ih0 _ _ _ _)
   | (with_reducible exact LeO.refl _)
   | (with_reducible exact LeO.none _)
   | (with_reducible refine LeO.ite ?_ ?_)
   | (with_reducible refine LeO.bind ?_ (fun _ => ?_))
   | exact ih0 _ _ _ _
   | exact LeO.none _
   | refine LeO.ite ?_ ?_
   | refine LeO.bind ?_ (fun _ => ?_)
theorem ck_LargeLists.mono : ∀ a0 a1 k, LeO (ck_LargeLists.f k a0 a1) (ck_LargeLists.f (k + 1) a0 a1) := by
 intro a0 a1 k
 have ih0 := ck_LargeLists.mono_l k
 unfold ck_LargeLists.f
 repeat' first
   | (with_reducible exact ih0 _ _ _ _)
   | (with_reducible exact LeO.refl _)
   | (with_reducible exact LeO.none _)
   | (with_reducible refine LeO.ite ?_ ?_)
   | (with_reducible refine LeO.bind ?_ (fun _ => ?_))
   | exact ih0 _ _ _ _
   | exact LeO.none _
   | refine LeO.ite ?_ ?_
   | refine LeO.bind ?_ (fun _ => ?_)
set_option maxHeartbeats 8000000 in
set_option maxRecDepth 100000 in
theorem ck_LargeLists.calls (k : Nat) (A0 : Option Addr) (c0 : Nat) (l0 : List (List Int)) (a1 : Int) (r : Bool) (w : World) (hr0 : Kd.C (Kd.slice 3 (Kd.int .i64)) w A0 l0.length l0) (hc0 : l0.length ≤ c0) (h : ck_LargeLists.f k l0 a1 = some r) :
  Calls Try.prog 79 #[.slice A0 l0.length c0, .int .i64 a1] w fun e w' => e = .returned (.bool r) ∧ Below w.heap.size w w' := by
 have HR0 := Q0.mk hr0
 have HC0 := Q0.mk hc0
 clear hr0 hc0
 have HB := Q0.mk (Below.refl w.heap.size w)
 have H : (ck_LargeLists.l0 k l0 a1 0 0) = some r := h
 clear h
 have H' := Q0.mk H
 clear H
 go_enter Try.func79, Try.ntmps79
 go_wp2
 go_loopg [5, 6] k (fun kq v5 v6 w' => ∃ (x5_1 : Int) (x6_1 : Int), v5 = .int .i64 x5_1 ∧ v6 = .int .i64 x6_1 ∧ Q0 (ck_LargeLists.l0 kq l0 a1 x5_1 x6_1 = some r) ∧ Q0 (kq ≤ k) ∧ Q0 (Below w.heap.size w w'))
 case atStart => exact ⟨(0), (0), (by first | rfl | (simp; done) | (simp [*]; done)), (by first | rfl | (simp; done) | (simp [*]; done)), H', ⟨Nat.le_refl _⟩, ⟨by repeat (first | (with_reducible first | exact HB.1 | apply ba | apply pN | apply bD) | exact HB.1)⟩⟩
 case round =>
  clear H'
  try clear p2
  obtain ⟨x5_1, x6_1, rfl, rfl, HA, HK1, HB⟩ := hrel
  cases gk with
  | zero => exact absurd HA.1 (by simp [ck_LargeLists.l0])
  | succ k1 =>
   have H := HA.1
   clear HA
   simp only [ck_LargeLists.l0] at H
   by_cases c3 : x6_1 < (l0.length : Int)
   ·rw [if_pos c3] at H
    have c3b0 : decide (x6_1 < (l0.length : Int)) = true := decide_eq_true c3
    clear c3
    by_cases c4 : x5_1 ≤ a1
    ·rw [if_pos c4] at H
     have c4b0 : decide (x5_1 ≤ a1) = true := decide_eq_true c4
     clear c4
     by_cases c5 : 0 ≤ x6_1
     ·rw [if_pos c5] at H
      have c5b0 : decide (0 ≤ x6_1) = true := decide_eq_true c5
      clear c5
      obtain ⟨ji6, hji6⟩ : ∃ j_ : Int, (mn ((rd_L5 l0 x6_1).length : Int) a1) = j_ := ⟨_, rfl⟩
      replace H : (ck_LargeLists.l0 k1 l0 a1 (wrap64 (x5_1 + (wrap64 (1 + (ji6))))) (wrap64 (x6_1 + 1))) = some r := by first | (rw [hji6] at H; exact H) | (simp only [hji6] at H ⊢; exact H)
      have hji6_ : (if a1 < ((rd_L5 l0 x6_1).length : Int) then a1 else ((rd_L5 l0 x6_1).length : Int)) = ji6 := hji6
      have H' := Q0.mk H
      clear H
      have p101 : 0 ≤ (x6_1 : Int) := of_decide_eq_true (by first | (with_reducible assumption) | assumption)
      have q101 : x6_1 < (l0.length : Int) := of_decide_eq_true (by first | (with_reducible assumption) | assumption)
      obtain ⟨ad101, A101_0, c101_0, e101, hx101_0, hl101_0, hi101_0⟩ := at_L5 HR0.1 x6_1 p101 q101
      cases e101
      replace hx101_0 := (HB.1.cell (World.block_lt_of_cell? w _ hx101_0)).trans hx101_0
      have HR101_0 := Q0.mk hi101_0
      have HC101_0 := Q0.mk hl101_0
      clear hi101_0 hl101_0
      replace p101 := eq_true p101
      replace q101 := eq_true q101
      go_wp2
      go_roundg k1
      case measure => have := HK1.1; omega
      case rel => exact ⟨(wrap64 (x5_1 + (wrap64 (1 + (ji6))))), (wrap64 (x6_1 + 1)), (by first | rfl | (simp; done) | (simp only [← hji6] <;> (first | rfl | simp)) | (simp [*]; done)), (by first | rfl | (simp; done) | (simp [*]; done)), H', ⟨by have := HK1.1; omega⟩, ⟨by repeat (first | (with_reducible first | exact HB.1 | apply ba | apply pN | apply bD) | exact HB.1)⟩⟩
     ·rw [if_neg c5] at H
      exact absurd H (by simp)
    ·rw [if_neg c4] at H
     have c4b0 : decide (x5_1 ≤ a1) = false := decide_eq_false c4
     clear c4
     obtain rfl := Option.some.inj H
     go_wp2
     go_ret
     exact ⟨by first | rfl | (simp [errW_none, errW_some] <;> rfl) | (simp [*, errW_none, errW_some] <;> rfl), by repeat (first | (with_reducible first | exact HB.1 | apply ba | apply pN | apply bD) | exact HB.1)⟩
   ·rw [if_neg c3] at H
    have c3b0 : decide (x6_1 < (l0.length : Int)) = false := decide_eq_false c3
    clear c3
    obtain rfl := Option.some.inj H
    go_wp2
    go_ret
    exact ⟨by first | rfl | (simp [errW_none, errW_some] <;> rfl) | (simp [*, errW_none, errW_some] <;> rfl), by repeat (first | (with_reducible first | exact HB.1 | apply ba | apply pN | apply bD) | exact HB.1)⟩

end Go.Proofs.Ytelkjbacdpmnfaa.A
