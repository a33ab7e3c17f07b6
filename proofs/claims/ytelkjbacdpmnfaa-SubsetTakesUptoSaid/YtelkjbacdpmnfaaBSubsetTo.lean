/- Contracts. -/
import Derived.Test.YtelkjbacdpmnfaaB0
namespace Go.Proofs.Ytelkjbacdpmnfaa.A
open Go.RowKit Go.W_.PrintWords Go.W_.PrintLast Go.W_.PrintMore
attribute [local go_sem] max2_int min2_int max_two min_two max_three min_three max_four min_four
set_option linter.unusedVariables false
set_option linter.unusedSimpArgs false

/-! ### subset_to: function 100 -/
mutual
def subset_to.l0 : Nat → Int → List Int → List Int → Int → Int → Int → List (List (S82)) → Option (List Int)
 | 0, _, _, _, _, _, _, _ => none
 | k + 1, x2, x7, x12, x13, x14, x102000, x102001 => if x14 < x13 then (if 0 ≤ x14 then (if x14 < (x12.length : Int) then (if 0 ≤ (rd x12 x14) then (if (rd x12 x14) < (x102001.length : Int) then (subset_to.l1 k x2 x7 x12 x13 x14 (rd_L2 x102001 (rd x12 x14)) ((rd_L2 x102001 (rd x12 x14)).length : Int) 0 x102000 x102001) else (none)) else (none)) else (none)) else (none)) else (some x7)
def subset_to.l1 : Nat → Int → List Int → List Int → Int → Int → List (S82) → Int → Int → Int → List (List (S82)) → Option (List Int)
 | 0, _, _, _, _, _, _, _, _, _, _ => none
 | k + 1, x2, x7, x12, x13, x14, x22, x23, x24, x102000, x102001 => if x24 < x23 then (if 0 ≤ x24 then (if x24 < (x22.length : Int) then (if ((rd_T82 x22 x24).f0) = x2 then (if x7.length < 17592186044416 then (subset_to.l1 k x2 (x7 ++ [(rd_T82 x22 x24).f1]) x12 x13 x14 x22 x23 (wrap64 (x24 + 1)) x102000 x102001) else (none)) else (subset_to.l1 k x2 x7 x12 x13 x14 x22 x23 (wrap64 (x24 + 1)) x102000 x102001)) else (none)) else (none)) else (subset_to.l0 k x2 x7 x12 x13 (wrap64 (x14 + 1)) x102000 x102001)
end
def subset_to.f (k : Nat) (a0_0 : Int) (l0_1 : List (List (S82))) (l1 : List Int) (a2 : Int) : Option (List Int) := subset_to.l0 k a2 ([] : List Int) l1 (l1.length : Int) 0 a0_0 l0_1
theorem subset_to.mono_l : ∀ k, (∀ y0 y1 y2 y3 y4 y5 y6, LeO (subset_to.l0 k y0 y1 y2 y3 y4 y5 y6) (subset_to.l0 (k + 1) y0 y1 y2 y3 y4 y5 y6)) ∧ (∀ y0 y1 y2 y3 y4 y5 y6 y7 y8 y9, LeO (subset_to.l1 k y0 y1 y2 y3 y4 y5 y6 y7 y8 y9) (subset_to.l1 (k + 1) y0 y1 y2 y3 y4 y5 y6 y7 y8 y9))
 | 0 => ⟨fun _ _ _ _ _ _ _ r h => by simp [subset_to.l0] at h, fun _ _ _ _ _ _ _ _ _ _ r h => by simp [subset_to.l1] at h⟩
 | k + 1 => by
  obtain ⟨ih0, ih1⟩ := subset_to.mono_l k
  refine ⟨?_, ?_⟩
  ·intro y0 y1 y2 y3 y4 y5 y6
   unfold subset_to.l0
   repeat' first
   | (with_reducible exact ih0 _ _ _ _ _ _ _)
   | (with_reducible exact ih1 _ _ _ _ _ _ _ _ _ _)
   | (with_reducible exact LeO.refl _)
   | (with_reducible exact LeO.none _)
   | (with_reducible refine LeO.ite ?_ ?_)
   | (with_reducible refine LeO.bind ?_ (fun _ => ?_))
   | exact ih0 _ _ _ _ _ _ _
   | exact ih1 _ _ _ _ _ _ _ _ _ _
   | exact LeO.none _
   | refine LeO.ite ?_ ?_
   | refine LeO.bind ?_ (fun _ => ?_)
  ·intro y0 y1 y2 y3 y4 y5 y6 y7 y8 y9
   unfold subset_to.l1
   repeat' first
   | (with_reducible exact ih0 _ _ _ _ _ _ _)
   | (with_reducible exact ih1 _ _ _ _ _ _ _ _ _ _)
   | (with_reducible exact LeO.refl _)
   | (with_reducible exact LeO.none _)
   | (with_reducible refine LeO.ite ?_ ?_)
   | (with_reducible refine LeO.bind ?_ (fun _ => ?_))
   | exact ih0 _ _ _ _ _ _ _
   | exact ih1 _ _ _ _ _ _ _ _ _ _
   | exact LeO.none _
   | refine LeO.ite ?_ ?_
   | refine LeO.bind ?_ (fun _ => ?_)
theorem subset_to.mono : ∀ a0 a1 a2 a3 k, LeO (subset_to.f k a0 a1 a2 a3) (subset_to.f (k + 1) a0 a1 a2 a3) := by
 intro a0 a1 a2 a3 k
 obtain ⟨ih0, ih1⟩ := subset_to.mono_l k
 unfold subset_to.f
 repeat' first
   | (with_reducible exact ih0 _ _ _ _ _ _ _)
   | (with_reducible exact ih1 _ _ _ _ _ _ _ _ _ _)
   | (with_reducible exact LeO.refl _)
   | (with_reducible exact LeO.none _)
   | (with_reducible refine LeO.ite ?_ ?_)
   | (with_reducible refine LeO.bind ?_ (fun _ => ?_))
   | exact ih0 _ _ _ _ _ _ _
   | exact ih1 _ _ _ _ _ _ _ _ _ _
   | exact LeO.none _
   | refine LeO.ite ?_ ?_
   | refine LeO.bind ?_ (fun _ => ?_)
set_option maxHeartbeats 8000000 in
set_option maxRecDepth 100000 in
theorem subset_to.calls (k : Nat) (a0_0 : Int) (A0_1 : Option Addr) (c0_1 : Nat) (l0_1 : List (List (S82))) (A1 : Option Addr) (c1 : Nat) (l1 : List Int) (a2 : Int) (r : List Int) (w : World) (hr0_1 : Kd.C (Kd.slice 82 k82) w A0_1 l0_1.length l0_1) (hc0_1 : l0_1.length ≤ c0_1) (hr1 : Kd.C (Kd.int .i64) w A1 l1.length l1) (hc1 : l1.length ≤ c1) (h : subset_to.f k a0_0 l0_1 l1 a2 = some r) :
  Calls Try.prog 100 #[.agg #[.int .i64 a0_0, .slice A0_1 l0_1.length c0_1], .slice A1 l1.length c1, .int .i64 a2] w fun e w' => ∃ v0_ : Value, e = .returned (v0_) ∧ Kd.R (Kd.int .i64) 3 w' w.heap.size (fun _ => True) v0_ r ∧ Below w.heap.size w w' := by
 have hu28 := Try.underlying28
 have hu82 := Try.underlying82
 have HR0_1 := Q0z.mk hr0_1
 have HC0_1 := Q0z.mk hc0_1
 clear hr0_1 hc0_1
 have HR1 := Q0z.mk hr1
 have HC1 := Q0z.mk hc1
 clear hr1 hc1
 have HB := Q0z.mk (Below.refl w.heap.size w)
 have H : (subset_to.l0 k a2 ([] : List Int) l1 (l1.length : Int) 0 a0_0 l0_1) = some r := h
 clear h
 have H' := Q0z.mk H
 clear H
 go_enter Try.func100, Try.ntmps100
 go_wp2_with (first | ((with_reducible refine gate_dst (N := 3) rfl ?_); refine box_event ?hg (N := 3) ?hd (cs := #[.int .i64 a0_0, .slice A0_1 l0_1.length c0_1]) (t := 28) ?hr ?_; (case hd => rfl); (case hg => rfl); (case hr => first | (go_simp; done) | (go_simp; rfl)); intro gb101 hg w4 hbox hb; have n0_ := Q0z.mk (bsz (by repeat (first | (with_reducible first | exact HB.1 | apply ba | apply pN | apply bD) | exact HB.1)) hb); have n1_ := Q0z.mk (hbox); have n2_ := Q0z.mk ((by rw [hg]; exact (below_size (by repeat (first | (with_reducible first | exact HB.1 | apply ba | apply pN | apply bD) | exact HB.1))) : w.heap.size ≤ gb101)); have n3_ := Q0z.mk ((by rw [hg]; exact (below_size (by repeat (first | (with_reducible first | exact HB.1 | apply ba | apply pN | apply bD) | exact HB.1))) : w.heap.size ≤ gb101)); clear HB; have HB := n0_; have BK101 := n1_; have GW101 := n2_; have GE101 := n3_; clear n0_ n1_ n2_ n3_; clear hb hbox hg))
 go_loopg [7, 14] k (fun kq v7 v14 w' => ∃ (x7_1 : List Int) (x14_1 : Int), v14 = .int .i64 x14_1 ∧ Q0z (subset_to.l0 kq a2 x7_1 l1 (l1.length : Int) x14_1 a0_0 l0_1 = some r) ∧ Q0z (kq ≤ k) ∧ Q0z (Kd.R (Kd.int .i64) 3 w' w.heap.size (fun _ => True) v7 x7_1) ∧ Q0z (w'.heap[gb101]? = some (.cells #[.int .i64 a0_0, (.slice A0_1 l0_1.length c0_1)] 28 (0, 0))) ∧ Q0z (Below w.heap.size w w'))
 case atStart => exact ⟨(([] : List Int)), (0), (by first | rfl | (simp; done) | (simp [*]; done)), H', ⟨Nat.le_refl _⟩, ⟨by first | exact Kd.R_nil _ _ _ _ _ | exact Kd.N_nil _ _ _ _ _ | exact Kd.V_nil _ _ _ _ _ | exact Kd.Q_nil _ _ _ _ _ | exact Kd.S_nil _ _ _ _ _⟩, ⟨by (with_reducible repeat (first | refine bN ?_ _ | refine bd ?_ | refine bA ?_ _)); exact BK101.1⟩, ⟨by repeat (first | (with_reducible first | exact HB.1 | apply ba | apply pN | apply bD | refine bS ?_ GE101.1) | exact HB.1)⟩⟩
 case round =>
  clear H'
  try clear c1
  try clear p2
  obtain ⟨x7_1, x14_1, rfl, HA, HK1, HO_7, BK101, HB⟩ := hrel
  cases gk with
  | zero => exact absurd HA.1 (by simp [subset_to.l0])
  | succ k1 =>
   have H := HA.1
   clear HA
   simp only [subset_to.l0] at H
   by_cases c5 : x14_1 < (l1.length : Int)
   ·rw [if_pos c5] at H
    have c5b0 : decide (x14_1 < (l1.length : Int)) = true := decide_eq_true c5
    clear c5
    by_cases c6 : 0 ≤ x14_1
    ·rw [if_pos c6] at H
     have c6b0 : decide (0 ≤ x14_1) = true := decide_eq_true c6
     clear c6
     by_cases c7 : x14_1 < (l1.length : Int)
     ·rw [if_pos c7] at H
      have c7b0 : decide (x14_1 < (l1.length : Int)) = true := decide_eq_true c7
      clear c7
      by_cases c8 : 0 ≤ (rd l1 x14_1)
      ·rw [if_pos c8] at H
       have c8b0 : decide (0 ≤ (rd l1 x14_1)) = true := decide_eq_true c8
       clear c8
       by_cases c9 : (rd l1 x14_1) < (l0_1.length : Int)
       ·rw [if_pos c9] at H
        have c9b0 : decide ((rd l1 x14_1) < (l0_1.length : Int)) = true := decide_eq_true c9
        clear c9
        have H' := Q0z.mk H
        clear H
        have p102 : 0 ≤ (x14_1 : Int) := of_decide_eq_true (by first | (with_reducible assumption) | assumption)
        have q102 : x14_1 < (l1.length : Int) := of_decide_eq_true (by first | (with_reducible assumption) | assumption)
        obtain ⟨ad102, e102, hx102_0⟩ := Kd.at_int HR1.1 x14_1 p102 q102
        cases e102
        replace hx102_0 := (HB.1.cell (World.block_lt_of_cell? w _ hx102_0)).trans hx102_0
        replace p102 := eq_true p102
        replace q102 := eq_true q102
        have hcz10_0 : wr.cell? ⟨gb101, 0, none⟩ = some (.int .i64 a0_0) := (bcz BK101.1 0).trans rfl
        have hcz10_1 : wr.cell? ⟨gb101, 1, none⟩ = some (.slice A0_1 l0_1.length c0_1) := (bcz BK101.1 1).trans rfl
        have hfz10_0 := bf BK101.1 0
        have hfz10_1 := bf BK101.1 1
        have p103 : 0 ≤ ((rd l1 x14_1) : Int) := of_decide_eq_true (by first | (with_reducible assumption) | assumption)
        have q103 : (rd l1 x14_1) < (l0_1.length : Int) := of_decide_eq_true (by first | (with_reducible assumption) | assumption)
        obtain ⟨ad103, A103_0, c103_0, e103, hx103_0, hl103_0, hi103_0⟩ := at_L2 HR0_1.1 (rd l1 x14_1) p103 q103
        cases e103
        replace hx103_0 := (HB.1.cell (World.block_lt_of_cell? w _ hx103_0)).trans hx103_0
        have HR103_0 := Q0z.mk hi103_0
        have HC103_0 := Q0z.mk hl103_0
        clear hi103_0 hl103_0
        replace p103 := eq_true p103
        replace q103 := eq_true q103
        go_wp2
        go_loopg [7, 24] k1 (fun kq v7 v24 w' => ∃ (x7_2 : List Int) (x24_2 : Int), v24 = .int .i64 x24_2 ∧ Q0z (subset_to.l1 kq a2 x7_2 l1 (l1.length : Int) x14_1 (rd_L2 l0_1 (rd l1 x14_1)) ((rd_L2 l0_1 (rd l1 x14_1)).length : Int) x24_2 a0_0 l0_1 = some r) ∧ Q0z (kq ≤ k1) ∧ Q0z (Kd.R (Kd.int .i64) 3 w' w.heap.size (fun _ => True) v7 x7_2) ∧ Q0z (w'.heap[gb101]? = some (.cells #[.int .i64 a0_0, (.slice (some ad103) l0_1.length c0_1)] 28 (0, 0))) ∧ Q0z (Below w.heap.size w w'))
        case atStart => exact ⟨(x7_1), (0), (by first | rfl | (simp; done) | (simp [*]; done)), H', ⟨Nat.le_refl _⟩, ⟨by (with_reducible repeat (first | apply Kd.R_alloc | apply Kd.R_drewN | apply Kd.R_drew)); exact HO_7.1⟩, ⟨by (with_reducible repeat (first | refine bN ?_ _ | refine bd ?_ | refine bA ?_ _)); exact BK101.1⟩, ⟨by repeat (first | (with_reducible first | exact HB.1 | apply ba | apply pN | apply bD | refine bS ?_ GE101.1) | exact HB.1)⟩⟩
        case round =>
         clear H'
         try clear c1
         try clear p1
         try clear q1
         try clear hx1
         try clear p2
         try clear c5
         try clear c5b0
         try clear c6
         try clear c6b0
         try clear c7
         try clear c7b0
         try clear c8
         try clear c8b0
         try clear c9
         try clear c9b0
         try clear c10
         try clear p10
         try clear q10
         try clear hx10
         try clear hcz10_0
         try clear hcz10_1
         try clear hfz10_0
         try clear hfz10_1
         try clear hx102_0
         try clear hx103_0
         try clear p102
         try clear p103
         try clear p2
         try clear q102
         try clear q103
         obtain ⟨x7_2, x24_2, rfl, HA, HK2, HO_7, BK101, HB⟩ := hrel
         cases gk with
         | zero => exact absurd HA.1 (by simp [subset_to.l1])
         | succ k2 =>
          have H := HA.1
          clear HA
          simp only [subset_to.l1] at H
          by_cases c11 : x24_2 < ((rd_L2 l0_1 (rd l1 x14_1)).length : Int)
          ·rw [if_pos c11] at H
           have c11b0 : decide (x24_2 < ((rd_L2 l0_1 (rd l1 x14_1)).length : Int)) = true := decide_eq_true c11
           clear c11
           by_cases c12 : 0 ≤ x24_2
           ·rw [if_pos c12] at H
            have c12b0 : decide (0 ≤ x24_2) = true := decide_eq_true c12
            clear c12
            by_cases c13 : x24_2 < ((rd_L2 l0_1 (rd l1 x14_1)).length : Int)
            ·rw [if_pos c13] at H
             have c13b0 : decide (x24_2 < ((rd_L2 l0_1 (rd l1 x14_1)).length : Int)) = true := decide_eq_true c13
             clear c13
             by_cases c14 : ((rd_T82 (rd_L2 l0_1 (rd l1 x14_1)) x24_2).f0) = a2
             ·rw [if_pos c14] at H
              have c14b0 : (((rd_T82 (rd_L2 l0_1 (rd l1 x14_1)) x24_2).f0) == a2) = true := beq_iff_eq.mpr c14
              have c14b1 : (((rd_T82 (rd_L2 l0_1 (rd l1 x14_1)) x24_2).f0) != a2) = false := bne_eq_false_iff_eq.mpr c14
              clear c14
              by_cases c15 : x7_2.length < 17592186044416
              ·rw [if_pos c15] at H
               have LMc15 := Q0z.mk c15
               clear c15
               obtain ⟨y106, hy106⟩ : ∃ y_ : List Int, y_ = (x7_2 ++ [(rd_T82 (rd_L2 l0_1 (rd l1 x14_1)) x24_2).f1]) := ⟨_, rfl⟩
               replace H : (subset_to.l1 k2 a2 y106 l1 (l1.length : Int) x14_1 (rd_L2 l0_1 (rd l1 x14_1)) ((rd_L2 l0_1 (rd l1 x14_1)).length : Int) (wrap64 (x24_2 + 1)) a0_0 l0_1) = some r := by first | (rw [hy106]; with_reducible exact H) | (have H2_ := (Option.bind_some _ _).symm.trans H; rw [hy106]; with_reducible exact H2_) | (have H2_ := (Option.bind_some _ _).symm.trans H; with_reducible exact H2_) | with_reducible exact H | (rw [hy106]; exact H) | exact H
               have Ny106 := Q0z.mk hy106
               clear hy106
               have H' := Q0z.mk H
               clear H
               have p104 : 0 ≤ (x24_2 : Int) := of_decide_eq_true (by first | (with_reducible assumption) | assumption)
               have q104 : x24_2 < ((rd_L2 l0_1 (rd l1 x14_1)).length : Int) := of_decide_eq_true (by first | (with_reducible assumption) | assumption)
               obtain ⟨ad104, e104, hx104_0, hx104_1⟩ := at_T82 HR103_0.1 x24_2 p104 q104
               cases e104
               replace hx104_0 := (HB.1.cell (World.block_lt_of_cell? w _ hx104_0)).trans hx104_0
               replace hx104_1 := (HB.1.cell (World.block_lt_of_cell? w _ hx104_1)).trans hx104_1
               replace p104 := eq_true p104
               replace q104 := eq_true q104
               go_wp2_with (first | ((with_reducible refine gate_dst (N := 11) rfl ?_); refine box_event ?hg (N := 11) ?hd (cs := #[.int .i64 0, .int .i64 0]) (t := 82) ?hr ?_; (case hd => rfl); (case hg => rfl); (case hr => first | (go_simp; done) | (go_simp; rfl)); intro gb105 hg w16 hbox hb; have n0_ := Q0z.mk (Kd.R_below (by (with_reducible repeat (first | apply Kd.R_alloc | apply Kd.R_drewN | apply Kd.R_drew)); exact HO_7.1) hb); have n1_ := Q0z.mk (bbz (g := gb101) (o := .cells #[.int .i64 a0_0, .slice (some ad103) l0_1.length c0_1] 28 (0, 0)) (by (with_reducible repeat (first | refine bN ?_ _ | refine bd ?_ | refine bA ?_ _)); exact BK101.1) hb); have n2_ := Q0z.mk (bsz (by repeat (first | (with_reducible first | exact HB.1 | apply ba | apply pN | apply bD | refine bS ?_ GE101.1) | exact HB.1)) hb); have n3_ := Q0z.mk (hbox); have n4_ := Q0z.mk ((by rw [hg]; exact (below_size (by repeat (first | (with_reducible first | exact HB.1 | apply ba | apply pN | apply bD | refine bS ?_ GE101.1) | exact HB.1))) : w.heap.size ≤ gb105)); have n5_ := Q0z.mk ((by rw [hg]; exact (below_size (by repeat (first | (with_reducible first | exact HB.1 | apply ba | apply pN | apply bD | refine bS ?_ GE101.1) | exact HB.1))) : w.heap.size ≤ gb105)); have n6_ := Q0z.mk ((by rw [hg]; exact Nat.ne_of_lt (blk_lt (g := gb101) (o := .cells #[.int .i64 a0_0, .slice (some ad103) l0_1.length c0_1] 28 (0, 0)) (by (with_reducible repeat (first | refine bN ?_ _ | refine bd ?_ | refine bA ?_ _)); exact BK101.1)) : gb101 ≠ gb105)); have n7_ := Q0z.mk ((by rw [hg]; exact Nat.ne_of_gt (blk_lt (g := gb101) (o := .cells #[.int .i64 a0_0, .slice (some ad103) l0_1.length c0_1] 28 (0, 0)) (by (with_reducible repeat (first | refine bN ?_ _ | refine bd ?_ | refine bA ?_ _)); exact BK101.1)) : gb105 ≠ gb101)); clear HO_7; clear BK101; clear HB; have HO_7 := n0_; have BK101 := n1_; have HB := n2_; have BK105 := n3_; have GW105 := n4_; have GE105 := n5_; have NB101_105 := n6_; have NB105_101 := n7_; clear n0_ n1_ n2_ n3_ n4_ n5_ n6_ n7_; clear hb hbox hg; have hnb17 := NB105_101.1; have hnc17 := NB101_105.1; have hcz18_0 : w16.cell? ⟨gb105, 0, none⟩ = some (.int .i64 0) := (bcz BK105.1 0).trans rfl; have hcz18_1 : w16.cell? ⟨gb105, 1, none⟩ = some (.int .i64 0) := (bcz BK105.1 1).trans rfl; have hfz18_0 := bf BK105.1 0; have hfz18_1 := bf BK105.1 1) | ((with_reducible refine gate_builtin (b := .append) (xs := #[.tmp 32, .tmp 35]) rfl ?_); at_builtin; refine Kd.R_append (Kd.int .i64) (w0 := w) w.heap.size rfl (.tmp 32) (.tmp 35) 45 3 (.int .i64 0) 8 rfl Try.underlying45 info3 rfl (by decide) (by omega) u7 x7_2 ((rd_T82 (rd_L2 l0_1 (rd l1 x14_1)) x24_2).f1) [.int .i64 ((rd_T82 (rd_L2 l0_1 (rd l1 x14_1)) x24_2).f1)] (fun _ => True) (fun _ => False) rfl (by first | (go_simp; done) | (go_simp; rfl)) ?aP (fun _ hk => hk.elim) ?aF ?aO ?aB ?aS ?aL ?_; (case aP => exact rfl); (case aB => exact (by repeat (first | (with_reducible first | exact HB.1 | apply ba | apply pN | apply bD | refine bS ?_ GE101.1 | refine bS ?_ GE105.1) | exact HB.1))); (case aF => exact (fun _ _ => trivial)); (case aO => exact (by (with_reducible repeat (first | apply Kd.R_alloc | apply Kd.R_drewN | apply Kd.R_drew)); exact Kd.R_mono (Kd.R_far (p := ⟨gb105, 1, none⟩) (Kd.R_far (p := ⟨gb105, 0, none⟩) (Kd.R_types HO_7.1 BK105.1 (by decide)) (fun _ hk => hk.2) (.int .i64 ((rd_T82 (rd_L2 l0_1 (rd l1 x14_1)) x24_2).f0))) (fun _ hk => hk.2) (.int .i64 ((rd_T82 (rd_L2 l0_1 (rd l1 x14_1)) x24_2).f1))) (fun _ hk => trivial))); (case aS => exact (below_size (by repeat (first | (with_reducible first | exact HB.1 | apply ba | apply pN | apply bD | refine bS ?_ GE101.1 | refine bS ?_ GE105.1) | exact HB.1)))); (case aL => have := LMc15.1; omega); intro v107 w19 ho hb hg hat; rw [← Ny106.1] at ho; have n0_ := Q0z.mk (bG (g := gb101) (o := .cells #[.int .i64 a0_0, .slice (some ad103) l0_1.length c0_1] 28 (0, 0)) (by (with_reducible repeat (first | refine bN ?_ _ | refine bd ?_ | refine bA ?_ _)); refine bF ?_ NB101_105.1 _; (with_reducible repeat (first | refine bN ?_ _ | refine bd ?_ | refine bA ?_ _)); refine bF ?_ NB101_105.1 _; (with_reducible repeat (first | refine bN ?_ _ | refine bd ?_ | refine bA ?_ _)); exact BK101.1) hg (Kd.R_ne HO_7.1 BK101.1 (by decide))); have n1_ := Q0z.mk (bG (g := gb105) (o := .cells #[.int .i64 ((rd_T82 (rd_L2 l0_1 (rd l1 x14_1)) x24_2).f0), .int .i64 ((rd_T82 (rd_L2 l0_1 (rd l1 x14_1)) x24_2).f1)] 82 (0, 0)) (by (with_reducible repeat (first | refine bN ?_ _ | refine bd ?_ | refine bA ?_ _)); refine bp (cs := #[.int .i64 ((rd_T82 (rd_L2 l0_1 (rd l1 x14_1)) x24_2).f0), .int .i64 0]) ?_ 1 _ rfl; (with_reducible repeat (first | refine bN ?_ _ | refine bd ?_ | refine bA ?_ _)); refine bp (cs := #[.int .i64 0, .int .i64 0]) ?_ 0 _ rfl; (with_reducible repeat (first | refine bN ?_ _ | refine bd ?_ | refine bA ?_ _)); exact BK105.1) hg (Kd.R_ne HO_7.1 BK105.1 (by decide))); have n2_ := Q0z.mk (hb); have n3_ := Q0z.mk (ho); clear BK101; clear BK105; clear HB; clear HO_7; have BK101 := n0_; have BK105 := n1_; have HB := n2_; have HO108 := n3_; clear n0_ n1_ n2_ n3_; clear ho hb hg hat))
               go_roundg k2
               case measure => have := HK1.1; have := HK2.1; omega
               case rel => exact ⟨(y106), (wrap64 (x24_2 + 1)), (by first | rfl | (simp; done) | (simp [*]; done)), H', ⟨by have := HK1.1; have := HK2.1; omega⟩, ⟨by (with_reducible repeat (first | apply Kd.R_alloc | apply Kd.R_drewN | apply Kd.R_drew)); exact HO108.1⟩, ⟨by (with_reducible repeat (first | refine bN ?_ _ | refine bd ?_ | refine bA ?_ _)); exact BK101.1⟩, ⟨by repeat (first | (with_reducible first | exact HB.1 | apply ba | apply pN | apply bD | refine bS ?_ GE101.1 | refine bS ?_ GE105.1) | exact HB.1)⟩⟩
              ·rw [if_neg c15] at H
               exact absurd H (by simp)
             ·rw [if_neg c14] at H
              have c14b0 : (((rd_T82 (rd_L2 l0_1 (rd l1 x14_1)) x24_2).f0) == a2) = false := beq_eq_false_iff_ne.mpr c14
              have c14b1 : (((rd_T82 (rd_L2 l0_1 (rd l1 x14_1)) x24_2).f0) != a2) = true := bne_iff_ne.mpr c14
              have H' := Q0z.mk H
              clear H
              have p104 : 0 ≤ (x24_2 : Int) := of_decide_eq_true (by first | (with_reducible assumption) | assumption)
              have q104 : x24_2 < ((rd_L2 l0_1 (rd l1 x14_1)).length : Int) := of_decide_eq_true (by first | (with_reducible assumption) | assumption)
              obtain ⟨ad104, e104, hx104_0, hx104_1⟩ := at_T82 HR103_0.1 x24_2 p104 q104
              cases e104
              replace hx104_0 := (HB.1.cell (World.block_lt_of_cell? w _ hx104_0)).trans hx104_0
              replace hx104_1 := (HB.1.cell (World.block_lt_of_cell? w _ hx104_1)).trans hx104_1
              replace p104 := eq_true p104
              replace q104 := eq_true q104
              go_wp2_with (first | ((with_reducible refine gate_dst (N := 11) rfl ?_); refine box_event ?hg (N := 11) ?hd (cs := #[.int .i64 0, .int .i64 0]) (t := 82) ?hr ?_; (case hd => rfl); (case hg => rfl); (case hr => first | (go_simp; done) | (go_simp; rfl)); intro gb105 hg w20 hbox hb; have n0_ := Q0z.mk (Kd.R_below (by (with_reducible repeat (first | apply Kd.R_alloc | apply Kd.R_drewN | apply Kd.R_drew)); exact HO_7.1) hb); have n1_ := Q0z.mk (bbz (g := gb101) (o := .cells #[.int .i64 a0_0, .slice (some ad103) l0_1.length c0_1] 28 (0, 0)) (by (with_reducible repeat (first | refine bN ?_ _ | refine bd ?_ | refine bA ?_ _)); exact BK101.1) hb); have n2_ := Q0z.mk (bsz (by repeat (first | (with_reducible first | exact HB.1 | apply ba | apply pN | apply bD | refine bS ?_ GE101.1) | exact HB.1)) hb); have n3_ := Q0z.mk (hbox); have n4_ := Q0z.mk ((by rw [hg]; exact (below_size (by repeat (first | (with_reducible first | exact HB.1 | apply ba | apply pN | apply bD | refine bS ?_ GE101.1) | exact HB.1))) : w.heap.size ≤ gb105)); have n5_ := Q0z.mk ((by rw [hg]; exact (below_size (by repeat (first | (with_reducible first | exact HB.1 | apply ba | apply pN | apply bD | refine bS ?_ GE101.1) | exact HB.1))) : w.heap.size ≤ gb105)); have n6_ := Q0z.mk ((by rw [hg]; exact Nat.ne_of_lt (blk_lt (g := gb101) (o := .cells #[.int .i64 a0_0, .slice (some ad103) l0_1.length c0_1] 28 (0, 0)) (by (with_reducible repeat (first | refine bN ?_ _ | refine bd ?_ | refine bA ?_ _)); exact BK101.1)) : gb101 ≠ gb105)); have n7_ := Q0z.mk ((by rw [hg]; exact Nat.ne_of_gt (blk_lt (g := gb101) (o := .cells #[.int .i64 a0_0, .slice (some ad103) l0_1.length c0_1] 28 (0, 0)) (by (with_reducible repeat (first | refine bN ?_ _ | refine bd ?_ | refine bA ?_ _)); exact BK101.1)) : gb105 ≠ gb101)); clear HO_7; clear BK101; clear HB; have HO_7 := n0_; have BK101 := n1_; have HB := n2_; have BK105 := n3_; have GW105 := n4_; have GE105 := n5_; have NB101_105 := n6_; have NB105_101 := n7_; clear n0_ n1_ n2_ n3_ n4_ n5_ n6_ n7_; clear hb hbox hg; have hnb21 := NB105_101.1; have hnc21 := NB101_105.1; have hcz22_0 : w20.cell? ⟨gb105, 0, none⟩ = some (.int .i64 0) := (bcz BK105.1 0).trans rfl; have hcz22_1 : w20.cell? ⟨gb105, 1, none⟩ = some (.int .i64 0) := (bcz BK105.1 1).trans rfl; have hfz22_0 := bf BK105.1 0; have hfz22_1 := bf BK105.1 1))
              go_roundg k2
              case measure => have := HK1.1; have := HK2.1; omega
              case rel => exact ⟨(x7_2), (wrap64 (x24_2 + 1)), (by first | rfl | (simp; done) | (simp [*]; done)), H', ⟨by have := HK1.1; have := HK2.1; omega⟩, ⟨by (with_reducible repeat (first | apply Kd.R_alloc | apply Kd.R_drewN | apply Kd.R_drew)); exact Kd.R_mono (Kd.R_far (p := ⟨gb105, 1, none⟩) (Kd.R_far (p := ⟨gb105, 0, none⟩) (Kd.R_types HO_7.1 BK105.1 (by decide)) (fun _ hk => hk.2) (.int .i64 ((rd_T82 (rd_L2 l0_1 (rd l1 x14_1)) x24_2).f0))) (fun _ hk => hk.2) (.int .i64 ((rd_T82 (rd_L2 l0_1 (rd l1 x14_1)) x24_2).f1))) (fun _ hk => trivial)⟩, ⟨by (with_reducible repeat (first | refine bN ?_ _ | refine bd ?_ | refine bA ?_ _)); refine bF ?_ NB101_105.1 _; (with_reducible repeat (first | refine bN ?_ _ | refine bd ?_ | refine bA ?_ _)); refine bF ?_ NB101_105.1 _; (with_reducible repeat (first | refine bN ?_ _ | refine bd ?_ | refine bA ?_ _)); exact BK101.1⟩, ⟨by repeat (first | (with_reducible first | exact HB.1 | apply ba | apply pN | apply bD | refine bS ?_ GE101.1 | refine bS ?_ GE105.1) | exact HB.1)⟩⟩
            ·rw [if_neg c13] at H
             exact absurd H (by simp)
           ·rw [if_neg c12] at H
            exact absurd H (by simp)
          ·rw [if_neg c11] at H
           have c11b0 : decide (x24_2 < ((rd_L2 l0_1 (rd l1 x14_1)).length : Int)) = false := decide_eq_false c11
           clear c11
           have H' := Q0z.mk H
           clear H
           go_wp2
           go_roundg k2
           case measure => have := HK1.1; have := HK2.1; omega
           case rel => exact ⟨(x7_2), (wrap64 (x14_1 + 1)), (by first | rfl | (simp; done) | (simp [*]; done)), H', ⟨by have := HK1.1; have := HK2.1; omega⟩, ⟨by (with_reducible repeat (first | apply Kd.R_alloc | apply Kd.R_drewN | apply Kd.R_drew)); exact HO_7.1⟩, ⟨by (with_reducible repeat (first | refine bN ?_ _ | refine bd ?_ | refine bA ?_ _)); exact BK101.1⟩, ⟨by repeat (first | (with_reducible first | exact HB.1 | apply ba | apply pN | apply bD | refine bS ?_ GE101.1) | exact HB.1)⟩⟩
       ·rw [if_neg c9] at H
        exact absurd H (by simp)
      ·rw [if_neg c8] at H
       exact absurd H (by simp)
     ·rw [if_neg c7] at H
      exact absurd H (by simp)
    ·rw [if_neg c6] at H
     exact absurd H (by simp)
   ·rw [if_neg c5] at H
    have c5b0 : decide (x14_1 < (l1.length : Int)) = false := decide_eq_false c5
    clear c5
    obtain rfl := Option.some.inj H
    go_wp2
    go_ret
    exact ⟨_, by first | rfl | (simp [errW_none, errW_some] <;> rfl) | (simp [*, errW_none, errW_some] <;> rfl), by (with_reducible repeat (first | apply Kd.R_alloc | apply Kd.R_drewN | apply Kd.R_drew)); exact HO_7.1, by repeat (first | (with_reducible first | exact HB.1 | apply ba | apply pN | apply bD | refine bS ?_ GE101.1) | exact HB.1)⟩

end Go.Proofs.Ytelkjbacdpmnfaa.A
