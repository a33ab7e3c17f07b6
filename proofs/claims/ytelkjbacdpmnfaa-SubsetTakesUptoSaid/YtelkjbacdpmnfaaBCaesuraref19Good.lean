/- Contracts. -/
import Derived.Test.YtelkjbacdpmnfaaB0
import Derived.Test.YtelkjbacdpmnfaaBShort
import Derived.Test.YtelkjbacdpmnfaaBWordsB


namespace Go.Proofs.Ytelkjbacdpmnfaa.A
open Go.RowKit Go.W_.PrintWords Go.W_.PrintLast Go.W_.PrintMore
attribute [local go_sem] max2_int min2_int max_two min_two max_three min_three max_four min_four
set_option linter.unusedVariables false
set_option linter.unusedSimpArgs false

/-! ### cr19_Good: function 37 -/
mutual
def cr19_Good.j0 : Nat → Bool → Int → List (List Int) → List Bool → Option (Bool)
 | 0, _, _, _, _ => none
 | k + 1, x33, x102000, x102001, x102002 => if x33 = true then (some false) else (cr19_Good.l0 k 0 x102000 x102001 x102002)
def cr19_Good.l0 : Nat → Int → Int → List (List Int) → List Bool → Option (Bool)
 | 0, _, _, _, _ => none
 | k + 1, x3, x102000, x102001, x102002 => if x3 < (x102001.length : Int) then (if 0 ≤ x3 then (if ((rd_L5 x102001 x3).length : Int) = x102000 then (cr19_Good.l1 k x3 0 x102000 x102001 x102002) else (some false)) else (none)) else (some true)
def cr19_Good.l1 : Nat → Int → Int → Int → List (List Int) → List Bool → Option (Bool)
 | 0, _, _, _, _, _ => none
 | k + 1, x3, x4, x102000, x102001, x102002 => if x4 < x102000 then (if 0 ≤ x3 then (if x3 < (x102001.length : Int) then (if 0 ≤ x4 then (if x4 < ((rd_L5 x102001 x3).length : Int) then (if (rd (rd_L5 x102001 x3) x4) < 0 then (some false) else (if (rd (rd_L5 x102001 x3) x4) ≥ (x102001.length : Int) then (some false) else (cr19_Good.l1 k x3 (wrap64 (x4 + 1)) x102000 x102001 x102002))) else (none)) else (none)) else (none)) else (none)) else (cr19_Good.l0 k (wrap64 (x3 + 1)) x102000 x102001 x102002)
end
def cr19_Good.f (k : Nat) (a0_0 : Int) (l0_1 : List (List Int)) (l0_2 : List Bool) : Option (Bool) := if a0_0 < 1 then (cr19_Good.j0 k true a0_0 l0_1 l0_2) else (if a0_0 > 64 then (cr19_Good.j0 k true a0_0 l0_1 l0_2) else (if (l0_1.length : Int) < 1 then (cr19_Good.j0 k true a0_0 l0_1 l0_2) else (if (l0_1.length : Int) > 1000 then (cr19_Good.j0 k true a0_0 l0_1 l0_2) else (cr19_Good.j0 k ((l0_2.length : Int) != (l0_1.length : Int)) a0_0 l0_1 l0_2))))
theorem cr19_Good.mono_l : ∀ k, (∀ y0 y1 y2 y3, LeO (cr19_Good.j0 k y0 y1 y2 y3) (cr19_Good.j0 (k + 1) y0 y1 y2 y3)) ∧ (∀ y0 y1 y2 y3, LeO (cr19_Good.l0 k y0 y1 y2 y3) (cr19_Good.l0 (k + 1) y0 y1 y2 y3)) ∧ (∀ y0 y1 y2 y3 y4, LeO (cr19_Good.l1 k y0 y1 y2 y3 y4) (cr19_Good.l1 (k + 1) y0 y1 y2 y3 y4))
 | 0 => ⟨fun _ _ _ _ r h => by simp [cr19_Good.j0] at h, fun _ _ _ _ r h => by simp [cr19_Good.l0] at h, fun _ _ _ _ _ r h => by simp [cr19_Good.l1] at h⟩
 | k + 1 => by
  obtain ⟨ih0, ih1, ih2⟩ := cr19_Good.mono_l k; refine ⟨?_, ?_, ?_⟩
  ·intro y0 y1 y2 y3
   unfold cr19_Good.j0
   repeat' first
   | (with_reducible exact ih0 _ _ _ _)
   | (with_reducible exact ih1 _ _ _ _)
   | (with_reducible exact ih2 _ _ _ _ _)
   | (with_reducible exact LeO.refl _)
   | (with_reducible exact LeO.none _)
   | (with_reducible refine LeO.ite ?_ ?_)
   | (with_reducible refine LeO.bind ?_ (fun _ => ?_))
   | exact ih0 _ _ _ _
   | exact ih1 _ _ _ _
   | exact ih2 _ _ _ _ _
   | exact LeO.none _
   | refine LeO.ite ?_ ?_
   | refine LeO.bind ?_ (fun _ => ?_)
  ·intro y0 y1 y2 y3
   unfold cr19_Good.l0
   repeat' first
   | (with_reducible exact ih0 _ _ _ _)
   | (with_reducible exact ih1 _ _ _ _)
   | (with_reducible exact ih2 _ _ _ _ _)
   | (with_reducible exact LeO.refl _)
   | (with_reducible exact LeO.none _)
   | (with_reducible refine LeO.ite ?_ ?_)
   | (with_reducible refine LeO.bind ?_ (fun _ => ?_))
   | exact ih0 _ _ _ _
   | exact ih1 _ _ _ _
   | exact ih2 _ _ _ _ _
   | exact LeO.none _
   | refine LeO.ite ?_ ?_
   | refine LeO.bind ?_ (fun _ => ?_)
  ·intro y0 y1 y2 y3 y4
   unfold cr19_Good.l1
   repeat' first
   | (with_reducible exact ih0 _ _ _ _)
   | (with_reducible exact ih1 _ _ _ _)
   | (with_reducible exact ih2 _ _ _ _ _)
   | (with_reducible exact LeO.refl _)
   | (with_reducible exact LeO.none _)
   | (with_reducible refine LeO.ite ?_ ?_)
   | (with_reducible refine LeO.bind ?_ (fun _ => ?_))
   | exact ih0 _ _ _ _
   | exact ih1 _ _ _ _
   | exact ih2 _ _ _ _ _
   | exact LeO.none _
   | refine LeO.ite ?_ ?_
   | refine LeO.bind ?_ (fun _ => ?_)
theorem cr19_Good.mono : ∀ a0 a1 a2 k, LeO (cr19_Good.f k a0 a1 a2) (cr19_Good.f (k + 1) a0 a1 a2) := by
 intro a0 a1 a2 k; obtain ⟨ih0, ih1, ih2⟩ := cr19_Good.mono_l k
 unfold cr19_Good.f
 repeat' first
   | (with_reducible exact ih0 _ _ _ _)
   | (with_reducible exact ih1 _ _ _ _)
   | (with_reducible exact ih2 _ _ _ _ _)
   | (with_reducible exact LeO.refl _)
   | (with_reducible exact LeO.none _)
   | (with_reducible refine LeO.ite ?_ ?_)
   | (with_reducible refine LeO.bind ?_ (fun _ => ?_))
   | exact ih0 _ _ _ _
   | exact ih1 _ _ _ _
   | exact ih2 _ _ _ _ _
   | exact LeO.none _
   | refine LeO.ite ?_ ?_
   | refine LeO.bind ?_ (fun _ => ?_)
set_option maxHeartbeats 8000000 in
set_option maxRecDepth 100000 in
theorem cr19_Good.calls (k : Nat) (a0_0 : Int) (A0_1 : Option Addr) (c0_1 : Nat) (l0_1 : List (List Int)) (A0_2 : Option Addr) (c0_2 : Nat) (l0_2 : List Bool) (r : Bool) (w : World) (hr0_1 : Kd.C (Kd.slice 3 (Kd.int .i64)) w A0_1 l0_1.length l0_1) (hc0_1 : l0_1.length ≤ c0_1) (hr0_2 : Kd.C Kd.bool w A0_2 l0_2.length l0_2) (hc0_2 : l0_2.length ≤ c0_2) (h : cr19_Good.f k a0_0 l0_1 l0_2 = some r) :
  Calls Try.prog 37 #[.agg #[.int .i64 a0_0, .slice A0_1 l0_1.length c0_1, .slice A0_2 l0_2.length c0_2]] w fun e w' => e = .returned (.bool r) ∧ Below w.heap.size w w' := by
 have hu25 := Try.underlying25; have HR0_1 := Q0z.mk hr0_1; have HC0_1 := Q0z.mk hc0_1; clear hr0_1 hc0_1; have HR0_2 := Q0z.mk hr0_2; have HC0_2 := Q0z.mk hc0_2; clear hr0_2 hc0_2; have HB := Q0z.mk (Below.refl w.heap.size w); have H : (if a0_0 < 1 then (cr19_Good.j0 k true a0_0 l0_1 l0_2) else (if a0_0 > 64 then (cr19_Good.j0 k true a0_0 l0_1 l0_2) else (if (l0_1.length : Int) < 1 then (cr19_Good.j0 k true a0_0 l0_1 l0_2) else (if (l0_1.length : Int) > 1000 then (cr19_Good.j0 k true a0_0 l0_1 l0_2) else (cr19_Good.j0 k ((l0_2.length : Int) != (l0_1.length : Int)) a0_0 l0_1 l0_2))))) = some r := h; clear h; have HC2 := Q0z.mk H; clear H; go_enter Try.func37, Try.ntmps37; (go_upto_region 1 with (first | ((with_reducible refine gate_dst (N := 1) rfl ?_); (try (refine gate_guard (by rfl) ?_; dsimp only)); refine box_event ?hg (N := 1) ?hd (cs := #[.int .i64 a0_0, .slice A0_1 l0_1.length c0_1, .slice A0_2 l0_2.length c0_2]) (t := 25) ?hr ?_; (case hd => rfl); (case hg => rfl); (case hr => first | (go_simp; done) | (go_simp; rfl)); intro gb101 hg w3 hbox hb; have n0_ := Q0z.mk (bsz (qB HB.1) hb); have n1_ := Q0z.mk (hbox); have n2_ := Q0z.mk ((by rw [hg]; exact (below_size (qB HB.1)) : w.heap.size ≤ gb101)); have n3_ := Q0z.mk ((by rw [hg]; exact (below_size (qB HB.1)) : w.heap.size ≤ gb101)); clear HB; have HB := n0_; have BK101 := n1_; have GW101 := n2_; have GE101 := n3_; clear n0_ n1_ n2_ n3_; clear hb hbox hg))); (repeat (go_quiet (first | ((with_reducible refine gate_dst (N := 1) rfl ?_); (try (refine gate_guard (by rfl) ?_; dsimp only)); refine box_event ?hg (N := 1) ?hd (cs := #[.int .i64 a0_0, .slice A0_1 l0_1.length c0_1, .slice A0_2 l0_2.length c0_2]) (t := 25) ?hr ?_; (case hd => rfl); (case hg => rfl); (case hr => first | (go_simp; done) | (go_simp; rfl)); intro gb101 hg w3 hbox hb; have n0_ := Q0z.mk (bsz (qB HB.1) hb); have n1_ := Q0z.mk (hbox); have n2_ := Q0z.mk ((by rw [hg]; exact (below_size (qB HB.1)) : w.heap.size ≤ gb101)); have n3_ := Q0z.mk ((by rw [hg]; exact (below_size (qB HB.1)) : w.heap.size ≤ gb101)); clear HB; have HB := n0_; have BK101 := n1_; have GW101 := n2_; have GE101 := n3_; clear n0_ n1_ n2_ n3_; clear hb hbox hg)); go_upto_region 1 with (first | ((with_reducible refine gate_dst (N := 1) rfl ?_); (try (refine gate_guard (by rfl) ?_; dsimp only)); refine box_event ?hg (N := 1) ?hd (cs := #[.int .i64 a0_0, .slice A0_1 l0_1.length c0_1, .slice A0_2 l0_2.length c0_2]) (t := 25) ?hr ?_; (case hd => rfl); (case hg => rfl); (case hr => first | (go_simp; done) | (go_simp; rfl)); intro gb101 hg w3 hbox hb; have n0_ := Q0z.mk (bsz (qB HB.1) hb); have n1_ := Q0z.mk (hbox); have n2_ := Q0z.mk ((by rw [hg]; exact (below_size (qB HB.1)) : w.heap.size ≤ gb101)); have n3_ := Q0z.mk ((by rw [hg]; exact (below_size (qB HB.1)) : w.heap.size ≤ gb101)); clear HB; have HB := n0_; have BK101 := n1_; have GW101 := n2_; have GE101 := n3_; clear n0_ n1_ n2_ n3_; clear hb hbox hg)))); (try simp only [Act.put, sA, sB, sC]); (go_cut [33] (fun v33 wc => ∃ (kq : Nat) (x33_1 : Bool), v33 = .bool x33_1 ∧ Q0z (cr19_Good.j0 kq x33_1 a0_0 l0_1 l0_2 = some r) ∧ Q0z (kq ≤ k) ∧ Q0z (wc.heap[gb101]? = some (.cells #[.int .i64 a0_0, (.slice A0_1 l0_1.length c0_1), (.slice A0_2 l0_2.length c0_2)] 25 (0, 0))) ∧ Q0z (Below w.heap.size w wc)))
 case first =>
  have H := HC2.1; clear HC2
  by_cases c4 : a0_0 < 1
  ·rw [if_pos c4] at H; have c4b0 : decide (a0_0 < 1) = true := decide_eq_true c4; clear c4; (first | rw [c4b0] | (simp only [i64_w, i32_w]; rw [c4b0]) | skip); have H' := Q0z.mk H; clear H; obtain ⟨hcz5_0, hcz5_1, hcz5_2⟩ := cells3 BK101.1; obtain ⟨hfz5_0, hfz5_1, hfz5_2⟩ := froz3 BK101.1; go_wp2; (repeat (go_quiet (fail); try go_wp2)); go_meet
   case rel => exact ⟨_, (true), rfl, H', ⟨by first | omega | exact Nat.le_refl _⟩, ⟨qb BK101.1⟩, ⟨qB HB.1⟩⟩
  ·rw [if_neg c4] at H; have c4b0 : decide (a0_0 < 1) = false := decide_eq_false c4; clear c4; (first | rw [c4b0] | (simp only [i64_w, i32_w]; rw [c4b0]) | skip)
   by_cases c6 : a0_0 > 64
   ·rw [if_pos c6] at H; have c6b0 : decide (64 < a0_0) = true := decide_eq_true c6; clear c6; have H' := Q0z.mk H; clear H; obtain ⟨hcz7_0, hcz7_1, hcz7_2⟩ := cells3 BK101.1; obtain ⟨hfz7_0, hfz7_1, hfz7_2⟩ := froz3 BK101.1; go_wp2; (repeat (go_quiet (fail); try go_wp2)); go_meet
    case rel => exact ⟨_, (true), rfl, H', ⟨by first | omega | exact Nat.le_refl _⟩, ⟨qb BK101.1⟩, ⟨qB HB.1⟩⟩
   ·rw [if_neg c6] at H; have c6b0 : decide (64 < a0_0) = false := decide_eq_false c6; clear c6
    by_cases c8 : (l0_1.length : Int) < 1
    ·rw [if_pos c8] at H; have c8b0 : decide ((l0_1.length : Int) < 1) = true := decide_eq_true c8; (have c8b1 : decide (l0_1.length < 1) = true := decide_eq_true (by omega)); clear c8; have H' := Q0z.mk H; clear H; obtain ⟨hcz9_0, hcz9_1, hcz9_2⟩ := cells3 BK101.1; obtain ⟨hfz9_0, hfz9_1, hfz9_2⟩ := froz3 BK101.1; go_wp2; (repeat (go_quiet (fail); try go_wp2)); go_meet
     case rel => exact ⟨_, (true), rfl, H', ⟨by first | omega | exact Nat.le_refl _⟩, ⟨qb BK101.1⟩, ⟨qB HB.1⟩⟩
    ·rw [if_neg c8] at H; have c8b0 : decide ((l0_1.length : Int) < 1) = false := decide_eq_false c8; (have c8b1 : decide (l0_1.length < 1) = false := decide_eq_false (by omega)); clear c8
     by_cases c10 : (l0_1.length : Int) > 1000
     ·rw [if_pos c10] at H; have c10b0 : decide (1000 < (l0_1.length : Int)) = true := decide_eq_true c10; (have c10b1 : decide (1000 < l0_1.length) = true := decide_eq_true (by omega)); clear c10; have H' := Q0z.mk H; clear H; obtain ⟨hcz11_0, hcz11_1, hcz11_2⟩ := cells3 BK101.1; obtain ⟨hfz11_0, hfz11_1, hfz11_2⟩ := froz3 BK101.1; go_wp2; (repeat (go_quiet (fail); try go_wp2)); go_meet
      case rel => exact ⟨_, (true), rfl, H', ⟨by first | omega | exact Nat.le_refl _⟩, ⟨qb BK101.1⟩, ⟨qB HB.1⟩⟩
     ·rw [if_neg c10] at H; have c10b0 : decide (1000 < (l0_1.length : Int)) = false := decide_eq_false c10; (have c10b1 : decide (1000 < l0_1.length) = false := decide_eq_false (by omega)); clear c10; have H' := Q0z.mk H; clear H; obtain ⟨hcz12_0, hcz12_1, hcz12_2⟩ := cells3 BK101.1; obtain ⟨hfz12_0, hfz12_1, hfz12_2⟩ := froz3 BK101.1; go_wp2; (repeat (go_quiet (fail); try go_wp2)); go_meet
      case rel => exact ⟨_, (((l0_2.length : Int) != (l0_1.length : Int))), rfl, H', ⟨by first | omega | exact Nat.le_refl _⟩, ⟨qb BK101.1⟩, ⟨qB HB.1⟩⟩
 case rest =>
  clear HC2; (try clear c1); (try clear p2); (try clear c3); (try clear c4); (try clear c4b0); (try clear c6); (try clear c6b0); (try clear c8); (try clear c8b0); (try clear c8b1); (try clear c10); (try clear c10b0); (try clear c10b1); (try clear hcz11_0 hcz11_1 hcz11_2); (try clear hcz12_0 hcz12_1 hcz12_2); (try clear hcz5_0 hcz5_1 hcz5_2); (try clear hcz7_0 hcz7_1 hcz7_2); (try clear hcz9_0 hcz9_1 hcz9_2); (try clear hfz11_0 hfz11_1 hfz11_2); (try clear hfz12_0 hfz12_1 hfz12_2); (try clear hfz5_0 hfz5_1 hfz5_2); (try clear hfz7_0 hfz7_1 hfz7_2); (try clear hfz9_0 hfz9_1 hfz9_2); obtain ⟨kq, x33_1, rfl, HA, HJ1, BK101, HB⟩ := hcut
  cases kq with
  | zero => exact absurd HA.1 (by simp [cr19_Good.j0])
  | succ kj1 =>
   have H := HA.1; clear HA; simp only [cr19_Good.j0] at H
   by_cases c13 : x33_1 = true
   ·subst c13; (have H1 : (some false) = some r := by rw [if_pos rfl] at H; exact H); clear H; have H := H1; clear H1; obtain rfl := Option.some.inj H; go_wp2; (repeat (go_quiet (fail); try go_wp2)); go_ret; exact ⟨rfl, qB HB.1⟩
   ·replace c13 := Bool.eq_false_iff.mpr c13; subst c13; (have H1 : (cr19_Good.l0 kj1 0 a0_0 l0_1 l0_2) = some r := by rw [if_neg (show ¬ (false = true) by decide)] at H; exact H); clear H; have H := H1; clear H1; have H' := Q0z.mk H; clear H; go_wp2; (repeat (go_quiet (fail); try go_wp2)); (go_loopg [3] kj1 (fun kq v3 w' => ∃ (x3_2 : Int), v3 = .int .i64 x3_2 ∧ Q0z (cr19_Good.l0 kq x3_2 a0_0 l0_1 l0_2 = some r) ∧ Q0z (kq ≤ kj1) ∧ Q0z (w'.heap[gb101]? = some (.cells #[.int .i64 a0_0, (.slice A0_1 l0_1.length c0_1), (.slice A0_2 l0_2.length c0_2)] 25 (0, 0))) ∧ Q0z (Below w.heap.size w w')))
    case atStart => exact ⟨(0), rfl, H', ⟨Nat.le_refl _⟩, ⟨qb BK101.1⟩, ⟨qB HB.1⟩⟩
    case round =>
     clear H'; (try clear c1); (try clear p2); (try clear c3); (try clear c4); (try clear c4b0); (try clear c6); (try clear c6b0); (try clear c8); (try clear c8b0); (try clear c8b1); (try clear c10); (try clear c10b0); (try clear c10b1); (try clear c13); (try clear hcz11_0 hcz11_1 hcz11_2); (try clear hcz12_0 hcz12_1 hcz12_2); (try clear hcz5_0 hcz5_1 hcz5_2); (try clear hcz7_0 hcz7_1 hcz7_2); (try clear hcz9_0 hcz9_1 hcz9_2); (try clear hfz11_0 hfz11_1 hfz11_2); (try clear hfz12_0 hfz12_1 hfz12_2); (try clear hfz5_0 hfz5_1 hfz5_2); (try clear hfz7_0 hfz7_1 hfz7_2); (try clear hfz9_0 hfz9_1 hfz9_2); (try clear p2); obtain ⟨x3_2, rfl, HA, HK2, BK101, HB⟩ := hrel
     cases gk with
     | zero => exact absurd HA.1 (by simp [cr19_Good.l0])
     | succ k2 =>
      have H := HA.1; clear HA; simp only [cr19_Good.l0] at H
      by_cases c14 : x3_2 < (l0_1.length : Int)
      ·rw [if_pos c14] at H; have c14b0 : decide (x3_2 < (l0_1.length : Int)) = true := decide_eq_true c14; clear c14
       by_cases c15 : 0 ≤ x3_2
       ·rw [if_pos c15] at H; have c15b0 : decide (0 ≤ x3_2) = true := decide_eq_true c15; clear c15
        by_cases c16 : ((rd_L5 l0_1 x3_2).length : Int) = a0_0
        ·rw [if_pos c16] at H; have c16b0 : (((rd_L5 l0_1 x3_2).length : Int) == a0_0) = true := beq_iff_eq.mpr c16; have c16b1 : (((rd_L5 l0_1 x3_2).length : Int) != a0_0) = false := bne_eq_false_iff_eq.mpr c16; clear c16; have H' := Q0z.mk H; clear H; obtain ⟨hcz17_0, hcz17_1, hcz17_2⟩ := cells3 BK101.1; obtain ⟨hfz17_0, hfz17_1, hfz17_2⟩ := froz3 BK101.1; have p102 : 0 ≤ (x3_2 : Int) := qd; have q102 : x3_2 < (l0_1.length : Int) := qd; obtain ⟨ad102, A102_0, c102_0, e102, hx102_0, hl102_0, hi102_0⟩ := at_L5 HR0_1.1 x3_2 p102 q102; cases e102; replace hx102_0 := (HB.1.cell (World.block_lt_of_cell? w _ hx102_0)).trans hx102_0; have HR102_0 := Q0z.mk hi102_0; have HC102_0 := Q0z.mk hl102_0; clear hi102_0 hl102_0; replace p102 := eq_true p102; replace q102 := eq_true q102; go_wp2; (repeat (go_quiet (fail); try go_wp2)); (go_loopg [4] k2 (fun kq v4 w' => ∃ (x4_3 : Int), v4 = .int .i64 x4_3 ∧ Q0z (cr19_Good.l1 kq x3_2 x4_3 a0_0 l0_1 l0_2 = some r) ∧ Q0z (kq ≤ k2) ∧ Q0z (w'.heap[gb101]? = some (.cells #[.int .i64 a0_0, (.slice (some ad102) l0_1.length c0_1), (.slice A0_2 l0_2.length c0_2)] 25 (0, 0))) ∧ Q0z (Below w.heap.size w w')))
         case atStart => exact ⟨(0), rfl, H', ⟨Nat.le_refl _⟩, ⟨qb BK101.1⟩, ⟨qB HB.1⟩⟩
         case round =>
          clear H'; (try clear c1); (try clear p1); (try clear q1); (try clear hx1); (try clear p2); (try clear c3); (try clear c4); (try clear c4b0); (try clear c6); (try clear c6b0); (try clear c8); (try clear c8b0); (try clear c8b1); (try clear c10); (try clear c10b0); (try clear c10b1); (try clear p10); (try clear q10); (try clear hx10); (try clear c13); (try clear c14); (try clear c14b0); (try clear c15); (try clear c15b0); (try clear c16); (try clear c16b0); (try clear c16b1); (try clear hcz11_0 hcz11_1 hcz11_2); (try clear hcz12_0 hcz12_1 hcz12_2); (try clear hcz17_0 hcz17_1 hcz17_2); (try clear hcz5_0 hcz5_1 hcz5_2); (try clear hcz7_0 hcz7_1 hcz7_2); (try clear hcz9_0 hcz9_1 hcz9_2); (try clear hfz11_0 hfz11_1 hfz11_2); (try clear hfz12_0 hfz12_1 hfz12_2); (try clear hfz17_0 hfz17_1 hfz17_2); (try clear hfz5_0 hfz5_1 hfz5_2); (try clear hfz7_0 hfz7_1 hfz7_2); (try clear hfz9_0 hfz9_1 hfz9_2); (try clear hx102_0); (try clear p102); (try clear p2); (try clear q102); obtain ⟨x4_3, rfl, HA, HK3, BK101, HB⟩ := hrel
          cases gk with
          | zero => exact absurd HA.1 (by simp [cr19_Good.l1])
          | succ k3 =>
           have H := HA.1; clear HA; simp only [cr19_Good.l1] at H
           by_cases c18 : x4_3 < a0_0
           ·rw [if_pos c18] at H; have c18b0 : decide (x4_3 < a0_0) = true := decide_eq_true c18; clear c18
            by_cases c19 : 0 ≤ x3_2
            ·rw [if_pos c19] at H; have c19b0 : decide (0 ≤ x3_2) = true := decide_eq_true c19; clear c19
             by_cases c20 : x3_2 < (l0_1.length : Int)
             ·rw [if_pos c20] at H; have c20b0 : decide (x3_2 < (l0_1.length : Int)) = true := decide_eq_true c20; clear c20
              by_cases c21 : 0 ≤ x4_3
              ·rw [if_pos c21] at H; have c21b0 : decide (0 ≤ x4_3) = true := decide_eq_true c21; clear c21
               by_cases c22 : x4_3 < ((rd_L5 l0_1 x3_2).length : Int)
               ·rw [if_pos c22] at H; have c22b0 : decide (x4_3 < ((rd_L5 l0_1 x3_2).length : Int)) = true := decide_eq_true c22; clear c22
                by_cases c23 : (rd (rd_L5 l0_1 x3_2) x4_3) < 0
                ·rw [if_pos c23] at H; have c23b0 : decide ((rd (rd_L5 l0_1 x3_2) x4_3) < 0) = true := decide_eq_true c23; clear c23; obtain rfl := Option.some.inj H; obtain ⟨hcz24_0, hcz24_1, hcz24_2⟩ := cells3 BK101.1; obtain ⟨hfz24_0, hfz24_1, hfz24_2⟩ := froz3 BK101.1; have p103 : 0 ≤ (x3_2 : Int) := qd; have q103 : x3_2 < (l0_1.length : Int) := qd; obtain ⟨ad103, A103_0, c103_0, e103, hx103_0, hl103_0, hi103_0⟩ := at_L5 HR0_1.1 x3_2 p103 q103; (obtain rfl : ad102 = ad103 := (by injection e103)); replace hx103_0 := (HB.1.cell (World.block_lt_of_cell? w _ hx103_0)).trans hx103_0; have HR103_0 := Q0z.mk hi103_0; have HC103_0 := Q0z.mk hl103_0; clear hi103_0 hl103_0; replace p103 := eq_true p103; replace q103 := eq_true q103; have p104 : 0 ≤ (x4_3 : Int) := qd; have q104 : x4_3 < ((rd_L5 l0_1 x3_2).length : Int) := qd; obtain ⟨ad104, e104, hx104_0⟩ := Kd.at_int HR103_0.1 x4_3 p104 q104; cases e104; replace hx104_0 := (HB.1.cell (World.block_lt_of_cell? w _ hx104_0)).trans hx104_0; replace p104 := eq_true p104; replace q104 := eq_true q104; go_wp2; (repeat (go_quiet (fail); try go_wp2)); go_ret; exact ⟨rfl, qB HB.1⟩
                ·rw [if_neg c23] at H; have c23b0 : decide ((rd (rd_L5 l0_1 x3_2) x4_3) < 0) = false := decide_eq_false c23; clear c23
                 by_cases c25 : (rd (rd_L5 l0_1 x3_2) x4_3) ≥ (l0_1.length : Int)
                 ·rw [if_pos c25] at H; have c25b0 : decide ((l0_1.length : Int) ≤ (rd (rd_L5 l0_1 x3_2) x4_3)) = true := decide_eq_true c25; clear c25; obtain rfl := Option.some.inj H; obtain ⟨hcz26_0, hcz26_1, hcz26_2⟩ := cells3 BK101.1; obtain ⟨hfz26_0, hfz26_1, hfz26_2⟩ := froz3 BK101.1; have p103 : 0 ≤ (x3_2 : Int) := qd; have q103 : x3_2 < (l0_1.length : Int) := qd; obtain ⟨ad103, A103_0, c103_0, e103, hx103_0, hl103_0, hi103_0⟩ := at_L5 HR0_1.1 x3_2 p103 q103; (obtain rfl : ad102 = ad103 := (by injection e103)); replace hx103_0 := (HB.1.cell (World.block_lt_of_cell? w _ hx103_0)).trans hx103_0; have HR103_0 := Q0z.mk hi103_0; have HC103_0 := Q0z.mk hl103_0; clear hi103_0 hl103_0; replace p103 := eq_true p103; replace q103 := eq_true q103; have p104 : 0 ≤ (x4_3 : Int) := qd; have q104 : x4_3 < ((rd_L5 l0_1 x3_2).length : Int) := qd; obtain ⟨ad104, e104, hx104_0⟩ := Kd.at_int HR103_0.1 x4_3 p104 q104; cases e104; replace hx104_0 := (HB.1.cell (World.block_lt_of_cell? w _ hx104_0)).trans hx104_0; replace p104 := eq_true p104; replace q104 := eq_true q104; have p105 : 0 ≤ (x3_2 : Int) := qd; have q105 : x3_2 < (l0_1.length : Int) := qd; obtain ⟨ad105, A105_0, c105_0, e105, hx105_0, hl105_0, hi105_0⟩ := at_L5 HR0_1.1 x3_2 p105 q105; (obtain rfl : ad102 = ad105 := (by injection e105)); replace hx105_0 := (HB.1.cell (World.block_lt_of_cell? w _ hx105_0)).trans hx105_0; have HR105_0 := Q0z.mk hi105_0; have HC105_0 := Q0z.mk hl105_0; clear hi105_0 hl105_0; replace p105 := eq_true p105; replace q105 := eq_true q105; have ea_ := Option.some.inj (hx103_0.symm.trans hx105_0)
                  injection ea_ with ea_ en_ ec_
                  subst ea_; subst ec_; clear en_; have p106 : 0 ≤ (x4_3 : Int) := qd; have q106 : x4_3 < ((rd_L5 l0_1 x3_2).length : Int) := qd; obtain ⟨ad106, e106, hx106_0⟩ := Kd.at_int HR105_0.1 x4_3 p106 q106; cases e106; replace hx106_0 := (HB.1.cell (World.block_lt_of_cell? w _ hx106_0)).trans hx106_0; replace p106 := eq_true p106; replace q106 := eq_true q106; go_wp2; (repeat (go_quiet (fail); try go_wp2)); go_ret; exact ⟨rfl, qB HB.1⟩
                 ·rw [if_neg c25] at H; have c25b0 : decide ((l0_1.length : Int) ≤ (rd (rd_L5 l0_1 x3_2) x4_3)) = false := decide_eq_false c25; clear c25; have H' := Q0z.mk H; clear H; obtain ⟨hcz27_0, hcz27_1, hcz27_2⟩ := cells3 BK101.1; obtain ⟨hfz27_0, hfz27_1, hfz27_2⟩ := froz3 BK101.1; have p103 : 0 ≤ (x3_2 : Int) := qd; have q103 : x3_2 < (l0_1.length : Int) := qd; obtain ⟨ad103, A103_0, c103_0, e103, hx103_0, hl103_0, hi103_0⟩ := at_L5 HR0_1.1 x3_2 p103 q103; (obtain rfl : ad102 = ad103 := (by injection e103)); replace hx103_0 := (HB.1.cell (World.block_lt_of_cell? w _ hx103_0)).trans hx103_0; have HR103_0 := Q0z.mk hi103_0; have HC103_0 := Q0z.mk hl103_0; clear hi103_0 hl103_0; replace p103 := eq_true p103; replace q103 := eq_true q103; have p104 : 0 ≤ (x4_3 : Int) := qd; have q104 : x4_3 < ((rd_L5 l0_1 x3_2).length : Int) := qd; obtain ⟨ad104, e104, hx104_0⟩ := Kd.at_int HR103_0.1 x4_3 p104 q104; cases e104; replace hx104_0 := (HB.1.cell (World.block_lt_of_cell? w _ hx104_0)).trans hx104_0; replace p104 := eq_true p104; replace q104 := eq_true q104; have p105 : 0 ≤ (x3_2 : Int) := qd; have q105 : x3_2 < (l0_1.length : Int) := qd; obtain ⟨ad105, A105_0, c105_0, e105, hx105_0, hl105_0, hi105_0⟩ := at_L5 HR0_1.1 x3_2 p105 q105; (obtain rfl : ad102 = ad105 := (by injection e105)); replace hx105_0 := (HB.1.cell (World.block_lt_of_cell? w _ hx105_0)).trans hx105_0; have HR105_0 := Q0z.mk hi105_0; have HC105_0 := Q0z.mk hl105_0; clear hi105_0 hl105_0; replace p105 := eq_true p105; replace q105 := eq_true q105; have ea_ := Option.some.inj (hx103_0.symm.trans hx105_0)
                  injection ea_ with ea_ en_ ec_
                  subst ea_; subst ec_; clear en_; have p106 : 0 ≤ (x4_3 : Int) := qd; have q106 : x4_3 < ((rd_L5 l0_1 x3_2).length : Int) := qd; obtain ⟨ad106, e106, hx106_0⟩ := Kd.at_int HR105_0.1 x4_3 p106 q106; cases e106; replace hx106_0 := (HB.1.cell (World.block_lt_of_cell? w _ hx106_0)).trans hx106_0; replace p106 := eq_true p106; replace q106 := eq_true q106; go_wp2; (repeat (go_quiet (fail); try go_wp2)); go_roundg k3
                  case measure => have := HJ1.1; have := HK2.1; have := HK3.1; omega
                  case rel => exact ⟨(wrap64 (x4_3 + 1)), rfl, H', ⟨by have := HJ1.1; have := HK2.1; have := HK3.1; omega⟩, ⟨qb BK101.1⟩, ⟨qB HB.1⟩⟩
               ·rw [if_neg c22] at H; (exact absurd H (by simp))
              ·rw [if_neg c21] at H; (exact absurd H (by simp))
             ·rw [if_neg c20] at H; (exact absurd H (by simp))
            ·rw [if_neg c19] at H; (exact absurd H (by simp))
           ·rw [if_neg c18] at H; have c18b0 : decide (x4_3 < a0_0) = false := decide_eq_false c18; clear c18; have H' := Q0z.mk H; clear H; obtain ⟨hcz28_0, hcz28_1, hcz28_2⟩ := cells3 BK101.1; obtain ⟨hfz28_0, hfz28_1, hfz28_2⟩ := froz3 BK101.1; go_wp2; (repeat (go_quiet (fail); try go_wp2)); go_roundg k3
            case measure => have := HJ1.1; have := HK2.1; have := HK3.1; omega
            case rel => exact ⟨(wrap64 (x3_2 + 1)), rfl, H', ⟨by have := HJ1.1; have := HK2.1; have := HK3.1; omega⟩, ⟨qb BK101.1⟩, ⟨qB HB.1⟩⟩
        ·rw [if_neg c16] at H; have c16b0 : (((rd_L5 l0_1 x3_2).length : Int) == a0_0) = false := beq_eq_false_iff_ne.mpr c16; have c16b1 : (((rd_L5 l0_1 x3_2).length : Int) != a0_0) = true := bne_iff_ne.mpr c16; obtain rfl := Option.some.inj H; obtain ⟨hcz29_0, hcz29_1, hcz29_2⟩ := cells3 BK101.1; obtain ⟨hfz29_0, hfz29_1, hfz29_2⟩ := froz3 BK101.1; have p102 : 0 ≤ (x3_2 : Int) := qd; have q102 : x3_2 < (l0_1.length : Int) := qd; obtain ⟨ad102, A102_0, c102_0, e102, hx102_0, hl102_0, hi102_0⟩ := at_L5 HR0_1.1 x3_2 p102 q102; cases e102; replace hx102_0 := (HB.1.cell (World.block_lt_of_cell? w _ hx102_0)).trans hx102_0; have HR102_0 := Q0z.mk hi102_0; have HC102_0 := Q0z.mk hl102_0; clear hi102_0 hl102_0; replace p102 := eq_true p102; replace q102 := eq_true q102; go_wp2; (repeat (go_quiet (fail); try go_wp2)); go_ret; exact ⟨rfl, qB HB.1⟩
       ·rw [if_neg c15] at H; (exact absurd H (by simp))
      ·rw [if_neg c14] at H; have c14b0 : decide (x3_2 < (l0_1.length : Int)) = false := decide_eq_false c14; clear c14; obtain rfl := Option.some.inj H; obtain ⟨hcz30_0, hcz30_1, hcz30_2⟩ := cells3 BK101.1; obtain ⟨hfz30_0, hfz30_1, hfz30_2⟩ := froz3 BK101.1; go_wp2; (repeat (go_quiet (fail); try go_wp2)); go_ret; exact ⟨rfl, qB HB.1⟩

end Go.Proofs.Ytelkjbacdpmnfaa.A
