/- Contracts. -/
import Derived.Test.YtelkjbacdpmnfaaB0
import Derived.Test.YtelkjbacdpmnfaaBShort
import Derived.Test.YtelkjbacdpmnfaaBWordsB
namespace Go.Proofs.Ytelkjbacdpmnfaa.A
open Go.RowKit Go.W_.PrintWords Go.W_.PrintLast Go.W_.PrintMore
attribute [local go_sem] max2_int min2_int max_two min_two max_three min_three max_four min_four
set_option linter.unusedVariables false
set_option linter.unusedSimpArgs false

/-! ### cr22_Same: function 69 -/
mutual
def cr22_Same.j0 : Nat → Bool → Int → List (List Int) → List Bool → Int → List (List Int) → List Bool → Option (Bool)
 | 0, _, _, _, _, _, _, _ => none
 | k + 1, x30, x102000, x102001, x102002, x103000, x103001, x103002 => if x30 = true then (some false) else (cr22_Same.l0 k 0 x102000 x102001 x102002 x103000 x103001 x103002)
def cr22_Same.l0 : Nat → Int → Int → List (List Int) → List Bool → Int → List (List Int) → List Bool → Option (Bool)
 | 0, _, _, _, _, _, _, _ => none
 | k + 1, x5, x102000, x102001, x102002, x103000, x103001, x103002 => if x5 < (x102001.length : Int) then (if 0 ≤ x5 then (if x5 < (x103001.length : Int) then (if ((rd_L5 x102001 x5).length : Int) = ((rd_L5 x103001 x5).length : Int) then (cr22_Same.l1 k x5 0 x102000 x102001 x102002 x103000 x103001 x103002) else (some false)) else (none)) else (none)) else (cr22_Same.l2 k 0 x102000 x102001 x102002 x103000 x103001 x103002)
def cr22_Same.l1 : Nat → Int → Int → Int → List (List Int) → List Bool → Int → List (List Int) → List Bool → Option (Bool)
 | 0, _, _, _, _, _, _, _, _ => none
 | k + 1, x5, x6, x102000, x102001, x102002, x103000, x103001, x103002 => if 0 ≤ x5 then (if x5 < (x102001.length : Int) then (if x6 < ((rd_L5 x102001 x5).length : Int) then (if 0 ≤ x6 then (if x5 < (x103001.length : Int) then (if x6 < ((rd_L5 x103001 x5).length : Int) then (if (rd (rd_L5 x102001 x5) x6) = (rd (rd_L5 x103001 x5) x6) then (cr22_Same.l1 k x5 (wrap64 (x6 + 1)) x102000 x102001 x102002 x103000 x103001 x103002) else (some false)) else (none)) else (none)) else (none)) else (cr22_Same.l0 k (wrap64 (x5 + 1)) x102000 x102001 x102002 x103000 x103001 x103002)) else (none)) else (none)
def cr22_Same.l2 : Nat → Int → Int → List (List Int) → List Bool → Int → List (List Int) → List Bool → Option (Bool)
 | 0, _, _, _, _, _, _, _ => none
 | k + 1, x7, x102000, x102001, x102002, x103000, x103001, x103002 => if x7 < (x102002.length : Int) then (if 0 ≤ x7 then (if x7 < (x103002.length : Int) then (if ((rdOf false x102002 x7) != (rdOf false x103002 x7)) = true then (some false) else (cr22_Same.l2 k (wrap64 (x7 + 1)) x102000 x102001 x102002 x103000 x103001 x103002)) else (none)) else (none)) else (some true)
end
def cr22_Same.f (k : Nat) (a0_0 : Int) (l0_1 : List (List Int)) (l0_2 : List Bool) (a1_0 : Int) (l1_1 : List (List Int)) (l1_2 : List Bool) : Option (Bool) := if a0_0 = a1_0 then (if (l0_1.length : Int) = (l1_1.length : Int) then (cr22_Same.j0 k ((l0_2.length : Int) != (l1_2.length : Int)) a0_0 l0_1 l0_2 a1_0 l1_1 l1_2) else (cr22_Same.j0 k true a0_0 l0_1 l0_2 a1_0 l1_1 l1_2)) else (cr22_Same.j0 k true a0_0 l0_1 l0_2 a1_0 l1_1 l1_2)
theorem cr22_Same.mono_l : ∀ k, (∀ y0 y1 y2 y3 y4 y5 y6, LeO (cr22_Same.j0 k y0 y1 y2 y3 y4 y5 y6) (cr22_Same.j0 (k + 1) y0 y1 y2 y3 y4 y5 y6)) ∧ (∀ y0 y1 y2 y3 y4 y5 y6, LeO (cr22_Same.l0 k y0 y1 y2 y3 y4 y5 y6) (cr22_Same.l0 (k + 1) y0 y1 y2 y3 y4 y5 y6)) ∧ (∀ y0 y1 y2 y3 y4 y5 y6 y7, LeO (cr22_Same.l1 k y0 y1 y2 y3 y4 y5 y6 y7) (cr22_Same.l1 (k + 1) y0 y1 y2 y3 y4 y5 y6 y7)) ∧ (∀ y0 y1 y2 y3 y4 y5 y6, LeO (cr22_Same.l2 k y0 y1 y2 y3 y4 y5 y6) (cr22_Same.l2 (k + 1) y0 y1 y2 y3 y4 y5 y6))
 | 0 => ⟨fun _ _ _ _ _ _ _ r h => by simp [cr22_Same.j0] at h, fun _ _ _ _ _ _ _ r h => by simp [cr22_Same.l0] at h, fun _ _ _ _ _ _ _ _ r h => by simp [cr22_Same.l1] at h, fun _ _ _ _ _ _ _ r h => by simp [cr22_Same.l2] at h⟩
 | k + 1 => by
  obtain ⟨ih0, ih1, ih2, ih3⟩ := cr22_Same.mono_l k; refine ⟨?_, ?_, ?_, ?_⟩
  ·intro y0 y1 y2 y3 y4 y5 y6
   unfold cr22_Same.j0
   repeat' first
   | (with_reducible exact ih0 _ _ _ _ _ _ _)
   | (with_reducible exact ih1 _ _ _ _ _ _ _)
   | (with_reducible exact ih2 _ _ _ _ _ _ _ _)
   | (with_reducible exact ih3 _ _ _ _ _ _ _)
   | (with_reducible exact LeO.refl _)
   | (with_reducible exact LeO.none _)
   | (with_reducible refine LeO.ite ?_ ?_)
   | (with_reducible refine LeO.bind ?_ (fun _ => ?_))
   | exact ih0 _ _ _ _ _ _ _
   | exact ih1 _ _ _ _ _ _ _
   | exact ih2 _ _ _ _ _ _ _ _
   | exact ih3 _ _ _ _ _ _ _
   | exact LeO.none _
   | refine LeO.ite ?_ ?_
   | refine LeO.bind ?_ (fun _ => ?_)
  ·intro y0 y1 y2 y3 y4 y5 y6
   unfold cr22_Same.l0
   repeat' first
   | (with_reducible exact ih0 _ _ _ _ _ _ _)
   | (with_reducible exact ih1 _ _ _ _ _ _ _)
   | (with_reducible exact ih2 _ _ _ _ _ _ _ _)
   | (with_reducible exact ih3 _ _ _ _ _ _ _)
   | (with_reducible exact LeO.refl _)
   | (with_reducible exact LeO.none _)
   | (with_reducible refine LeO.ite ?_ ?_)
   | (with_reducible refine LeO.bind ?_ (fun _ => ?_))
   | exact ih0 _ _ _ _ _ _ _
   | exact ih1 _ _ _ _ _ _ _
   | exact ih2 _ _ _ _ _ _ _ _
   | exact ih3 _ _ _ _ _ _ _
   | exact LeO.none _
   | refine LeO.ite ?_ ?_
   | refine LeO.bind ?_ (fun _ => ?_)
  ·intro y0 y1 y2 y3 y4 y5 y6 y7
   unfold cr22_Same.l1
   repeat' first
   | (with_reducible exact ih0 _ _ _ _ _ _ _)
   | (with_reducible exact ih1 _ _ _ _ _ _ _)
   | (with_reducible exact ih2 _ _ _ _ _ _ _ _)
   | (with_reducible exact ih3 _ _ _ _ _ _ _)
   | (with_reducible exact LeO.refl _)
   | (with_reducible exact LeO.none _)
   | (with_reducible refine LeO.ite ?_ ?_)
   | (with_reducible refine LeO.bind ?_ (fun _ => ?_))
   | exact ih0 _ _ _ _ _ _ _
   | exact ih1 _ _ _ _ _ _ _
   | exact ih2 _ _ _ _ _ _ _ _
   | exact ih3 _ _ _ _ _ _ _
   | exact LeO.none _
   | refine LeO.ite ?_ ?_
   | refine LeO.bind ?_ (fun _ => ?_)
  ·intro y0 y1 y2 y3 y4 y5 y6
   unfold cr22_Same.l2
   repeat' first
   | (with_reducible exact ih0 _ _ _ _ _ _ _)
   | (with_reducible exact ih1 _ _ _ _ _ _ _)
   | (with_reducible exact ih2 _ _ _ _ _ _ _ _)
   | (with_reducible exact ih3 _ _ _ _ _ _ _)
   | (with_reducible exact LeO.refl _)
   | (with_reducible exact LeO.none _)
   | (with_reducible refine LeO.ite ?_ ?_)
   | (with_reducible refine LeO.bind ?_ (fun _ => ?_))
   | exact ih0 _ _ _ _ _ _ _
   | exact ih1 _ _ _ _ _ _ _
   | exact ih2 _ _ _ _ _ _ _ _
   | exact ih3 _ _ _ _ _ _ _
   | exact LeO.none _
   | refine LeO.ite ?_ ?_
   | refine LeO.bind ?_ (fun _ => ?_)
theorem cr22_Same.mono : ∀ a0 a1 a2 a3 a4 a5 k, LeO (cr22_Same.f k a0 a1 a2 a3 a4 a5) (cr22_Same.f (k + 1) a0 a1 a2 a3 a4 a5) := by
 intro a0 a1 a2 a3 a4 a5 k; obtain ⟨ih0, ih1, ih2, ih3⟩ := cr22_Same.mono_l k
 unfold cr22_Same.f
 repeat' first
   | (with_reducible exact ih0 _ _ _ _ _ _ _)
   | (with_reducible exact ih1 _ _ _ _ _ _ _)
   | (with_reducible exact ih2 _ _ _ _ _ _ _ _)
   | (with_reducible exact ih3 _ _ _ _ _ _ _)
   | (with_reducible exact LeO.refl _)
   | (with_reducible exact LeO.none _)
   | (with_reducible refine LeO.ite ?_ ?_)
   | (with_reducible refine LeO.bind ?_ (fun _ => ?_))
   | exact ih0 _ _ _ _ _ _ _
   | exact ih1 _ _ _ _ _ _ _
   | exact ih2 _ _ _ _ _ _ _ _
   | exact ih3 _ _ _ _ _ _ _
   | exact LeO.none _
   | refine LeO.ite ?_ ?_
   | refine LeO.bind ?_ (fun _ => ?_)
set_option maxHeartbeats 8000000 in
set_option maxRecDepth 100000 in
theorem cr22_Same.calls (k : Nat) (a0_0 : Int) (A0_1 : Option Addr) (c0_1 : Nat) (l0_1 : List (List Int)) (A0_2 : Option Addr) (c0_2 : Nat) (l0_2 : List Bool) (a1_0 : Int) (A1_1 : Option Addr) (c1_1 : Nat) (l1_1 : List (List Int)) (A1_2 : Option Addr) (c1_2 : Nat) (l1_2 : List Bool) (r : Bool) (w : World) (hr0_1 : Kd.C (Kd.slice 3 (Kd.int .i64)) w A0_1 l0_1.length l0_1) (hc0_1 : l0_1.length ≤ c0_1) (hr0_2 : Kd.C Kd.bool w A0_2 l0_2.length l0_2) (hc0_2 : l0_2.length ≤ c0_2) (hr1_1 : Kd.C (Kd.slice 3 (Kd.int .i64)) w A1_1 l1_1.length l1_1) (hc1_1 : l1_1.length ≤ c1_1) (hr1_2 : Kd.C Kd.bool w A1_2 l1_2.length l1_2) (hc1_2 : l1_2.length ≤ c1_2) (h : cr22_Same.f k a0_0 l0_1 l0_2 a1_0 l1_1 l1_2 = some r) :
  Calls Try.prog 69 #[.agg #[.int .i64 a0_0, .slice A0_1 l0_1.length c0_1, .slice A0_2 l0_2.length c0_2], .agg #[.int .i64 a1_0, .slice A1_1 l1_1.length c1_1, .slice A1_2 l1_2.length c1_2]] w fun e w' => e = .returned (.bool r) ∧ Below w.heap.size w w' := by
 have hu25 := Try.underlying25; have HR0_1 := Q0.mk hr0_1; have HC0_1 := Q0.mk hc0_1; clear hr0_1 hc0_1; have HR0_2 := Q0.mk hr0_2; have HC0_2 := Q0.mk hc0_2; clear hr0_2 hc0_2; have HR1_1 := Q0.mk hr1_1; have HC1_1 := Q0.mk hc1_1; clear hr1_1 hc1_1; have HR1_2 := Q0.mk hr1_2; have HC1_2 := Q0.mk hc1_2; clear hr1_2 hc1_2; have HB := Q0.mk (Below.refl w.heap.size w); have H : (if a0_0 = a1_0 then (if (l0_1.length : Int) = (l1_1.length : Int) then (cr22_Same.j0 k ((l0_2.length : Int) != (l1_2.length : Int)) a0_0 l0_1 l0_2 a1_0 l1_1 l1_2) else (cr22_Same.j0 k true a0_0 l0_1 l0_2 a1_0 l1_1 l1_2)) else (cr22_Same.j0 k true a0_0 l0_1 l0_2 a1_0 l1_1 l1_2)) = some r := h; clear h; have HC3 := Q0.mk H; clear H; go_enter Try.func69, Try.ntmps69; (go_upto_region 1 with (first | ((with_reducible refine gate_dst (N := 2) rfl ?_); (try (refine gate_guard (by rfl) ?_; dsimp only)); refine box_event ?hg (N := 2) ?hd (cs := #[.int .i64 a0_0, .slice A0_1 l0_1.length c0_1, .slice A0_2 l0_2.length c0_2]) (t := 25) ?hr ?_; (case hd => rfl); (case hg => rfl); (case hr => first | (go_simp; done) | (go_simp; rfl)); intro gb101 hg w4 hbox hb; have n0_ := Q0.mk (bsz (qB HB.1) hb); have n1_ := Q0.mk (hbox); have n2_ := Q0.mk ((by rw [hg]; exact (below_size (qB HB.1)) : w.heap.size ≤ gb101)); have n3_ := Q0.mk ((by rw [hg]; exact (below_size (qB HB.1)) : w.heap.size ≤ gb101)); clear HB; have HB := n0_; have BK101 := n1_; have GW101 := n2_; have GE101 := n3_; clear n0_ n1_ n2_ n3_; clear hb hbox hg) | ((with_reducible refine gate_dst (N := 3) rfl ?_); (try (refine gate_guard (by rfl) ?_; dsimp only)); refine box_event ?hg (N := 3) ?hd (cs := #[.int .i64 a1_0, .slice A1_1 l1_1.length c1_1, .slice A1_2 l1_2.length c1_2]) (t := 25) ?hr ?_; (case hd => rfl); (case hg => rfl); (case hr => first | (go_simp; done) | (go_simp; rfl)); intro gb102 hg w5 hbox hb; have n0_ := Q0.mk (bb BK101.1 hb); have n1_ := Q0.mk (bsz (qB HB.1) hb); have n2_ := Q0.mk (hbox); have n3_ := Q0.mk ((by rw [hg]; exact (below_size (qB HB.1)) : w.heap.size ≤ gb102)); have n4_ := Q0.mk ((by rw [hg]; exact (below_size (qB HB.1)) : w.heap.size ≤ gb102)); have n5_ := Q0.mk ((by rw [hg]; exact Nat.ne_of_lt (blk_lt BK101.1) : gb101 ≠ gb102)); have n6_ := Q0.mk ((by rw [hg]; exact Nat.ne_of_gt (blk_lt BK101.1) : gb102 ≠ gb101)); clear BK101; clear HB; have BK101 := n0_; have HB := n1_; have BK102 := n2_; have GW102 := n3_; have GE102 := n4_; have NB101_102 := n5_; have NB102_101 := n6_; clear n0_ n1_ n2_ n3_ n4_ n5_ n6_; clear hb hbox hg))); (repeat (go_quiet (first | ((with_reducible refine gate_dst (N := 2) rfl ?_); (try (refine gate_guard (by rfl) ?_; dsimp only)); refine box_event ?hg (N := 2) ?hd (cs := #[.int .i64 a0_0, .slice A0_1 l0_1.length c0_1, .slice A0_2 l0_2.length c0_2]) (t := 25) ?hr ?_; (case hd => rfl); (case hg => rfl); (case hr => first | (go_simp; done) | (go_simp; rfl)); intro gb101 hg w4 hbox hb; have n0_ := Q0.mk (bsz (qB HB.1) hb); have n1_ := Q0.mk (hbox); have n2_ := Q0.mk ((by rw [hg]; exact (below_size (qB HB.1)) : w.heap.size ≤ gb101)); have n3_ := Q0.mk ((by rw [hg]; exact (below_size (qB HB.1)) : w.heap.size ≤ gb101)); clear HB; have HB := n0_; have BK101 := n1_; have GW101 := n2_; have GE101 := n3_; clear n0_ n1_ n2_ n3_; clear hb hbox hg) | ((with_reducible refine gate_dst (N := 3) rfl ?_); (try (refine gate_guard (by rfl) ?_; dsimp only)); refine box_event ?hg (N := 3) ?hd (cs := #[.int .i64 a1_0, .slice A1_1 l1_1.length c1_1, .slice A1_2 l1_2.length c1_2]) (t := 25) ?hr ?_; (case hd => rfl); (case hg => rfl); (case hr => first | (go_simp; done) | (go_simp; rfl)); intro gb102 hg w5 hbox hb; have n0_ := Q0.mk (bb BK101.1 hb); have n1_ := Q0.mk (bsz (qB HB.1) hb); have n2_ := Q0.mk (hbox); have n3_ := Q0.mk ((by rw [hg]; exact (below_size (qB HB.1)) : w.heap.size ≤ gb102)); have n4_ := Q0.mk ((by rw [hg]; exact (below_size (qB HB.1)) : w.heap.size ≤ gb102)); have n5_ := Q0.mk ((by rw [hg]; exact Nat.ne_of_lt (blk_lt BK101.1) : gb101 ≠ gb102)); have n6_ := Q0.mk ((by rw [hg]; exact Nat.ne_of_gt (blk_lt BK101.1) : gb102 ≠ gb101)); clear BK101; clear HB; have BK101 := n0_; have HB := n1_; have BK102 := n2_; have GW102 := n3_; have GE102 := n4_; have NB101_102 := n5_; have NB102_101 := n6_; clear n0_ n1_ n2_ n3_ n4_ n5_ n6_; clear hb hbox hg)); go_upto_region 1 with (first | ((with_reducible refine gate_dst (N := 2) rfl ?_); (try (refine gate_guard (by rfl) ?_; dsimp only)); refine box_event ?hg (N := 2) ?hd (cs := #[.int .i64 a0_0, .slice A0_1 l0_1.length c0_1, .slice A0_2 l0_2.length c0_2]) (t := 25) ?hr ?_; (case hd => rfl); (case hg => rfl); (case hr => first | (go_simp; done) | (go_simp; rfl)); intro gb101 hg w4 hbox hb; have n0_ := Q0.mk (bsz (qB HB.1) hb); have n1_ := Q0.mk (hbox); have n2_ := Q0.mk ((by rw [hg]; exact (below_size (qB HB.1)) : w.heap.size ≤ gb101)); have n3_ := Q0.mk ((by rw [hg]; exact (below_size (qB HB.1)) : w.heap.size ≤ gb101)); clear HB; have HB := n0_; have BK101 := n1_; have GW101 := n2_; have GE101 := n3_; clear n0_ n1_ n2_ n3_; clear hb hbox hg) | ((with_reducible refine gate_dst (N := 3) rfl ?_); (try (refine gate_guard (by rfl) ?_; dsimp only)); refine box_event ?hg (N := 3) ?hd (cs := #[.int .i64 a1_0, .slice A1_1 l1_1.length c1_1, .slice A1_2 l1_2.length c1_2]) (t := 25) ?hr ?_; (case hd => rfl); (case hg => rfl); (case hr => first | (go_simp; done) | (go_simp; rfl)); intro gb102 hg w5 hbox hb; have n0_ := Q0.mk (bb BK101.1 hb); have n1_ := Q0.mk (bsz (qB HB.1) hb); have n2_ := Q0.mk (hbox); have n3_ := Q0.mk ((by rw [hg]; exact (below_size (qB HB.1)) : w.heap.size ≤ gb102)); have n4_ := Q0.mk ((by rw [hg]; exact (below_size (qB HB.1)) : w.heap.size ≤ gb102)); have n5_ := Q0.mk ((by rw [hg]; exact Nat.ne_of_lt (blk_lt BK101.1) : gb101 ≠ gb102)); have n6_ := Q0.mk ((by rw [hg]; exact Nat.ne_of_gt (blk_lt BK101.1) : gb102 ≠ gb101)); clear BK101; clear HB; have BK101 := n0_; have HB := n1_; have BK102 := n2_; have GW102 := n3_; have GE102 := n4_; have NB101_102 := n5_; have NB102_101 := n6_; clear n0_ n1_ n2_ n3_ n4_ n5_ n6_; clear hb hbox hg)))); (try simp only [Act.put, sA, sB, sC]); (go_cut [30] (fun v30 wc => ∃ (kq : Nat) (x30_2 : Bool), v30 = .bool x30_2 ∧ Q0 (cr22_Same.j0 kq x30_2 a0_0 l0_1 l0_2 a1_0 l1_1 l1_2 = some r) ∧ Q0 (kq ≤ k) ∧ Q0 (wc.heap[gb101]? = some (.cells #[.int .i64 a0_0, (.slice A0_1 l0_1.length c0_1), (.slice A0_2 l0_2.length c0_2)] 25 (0, 0))) ∧ Q0 (wc.heap[gb102]? = some (.cells #[.int .i64 a1_0, (.slice A1_1 l1_1.length c1_1), (.slice A1_2 l1_2.length c1_2)] 25 (0, 0))) ∧ Q0 (Below w.heap.size w wc)))
 case first =>
  have H := HC3.1; clear HC3
  by_cases c6 : a0_0 = a1_0
  ·rw [if_pos c6] at H; have c6b0 : (a0_0 == a1_0) = true := beq_iff_eq.mpr c6; have c6b1 : (a0_0 != a1_0) = false := bne_eq_false_iff_eq.mpr c6; clear c6; (first | rw [c6b0] | (simp only [i64_w, i32_w]; rw [c6b0]) | skip)
   by_cases c7 : (l0_1.length : Int) = (l1_1.length : Int)
   ·rw [if_pos c7] at H; have c7b0 : ((l0_1.length : Int) == (l1_1.length : Int)) = true := beq_iff_eq.mpr c7; have c7b1 : ((l0_1.length : Int) != (l1_1.length : Int)) = false := bne_eq_false_iff_eq.mpr c7; (have c7b2 : (l0_1.length == l1_1.length) = true := by first | simpa using c7 | (simp at c7 ⊢; omega)); clear c7; have H' := Q0.mk H; clear H; have hnb8 := NB101_102.1; have hnc8 := NB102_101.1; obtain ⟨hcz9_0, hcz9_1, hcz9_2⟩ := cells3 BK101.1; obtain ⟨hfz9_0, hfz9_1, hfz9_2⟩ := froz3 BK101.1; obtain ⟨hcz10_0, hcz10_1, hcz10_2⟩ := cells3 BK102.1; obtain ⟨hfz10_0, hfz10_1, hfz10_2⟩ := froz3 BK102.1; go_wp2; (repeat (go_quiet (fail); try go_wp2)); go_meet
    case rel => exact ⟨_, (((l0_2.length : Int) != (l1_2.length : Int))), rfl, H', ⟨by first | omega | exact Nat.le_refl _⟩, ⟨qb BK101.1⟩, ⟨qb BK102.1⟩, ⟨qB HB.1⟩⟩
   ·rw [if_neg c7] at H; have c7b0 : ((l0_1.length : Int) == (l1_1.length : Int)) = false := beq_eq_false_iff_ne.mpr c7; have c7b1 : ((l0_1.length : Int) != (l1_1.length : Int)) = true := bne_iff_ne.mpr c7; (have c7b2 : (l0_1.length == l1_1.length) = false := by first | simpa using c7 | (simp at c7 ⊢; omega)); have H' := Q0.mk H; clear H; have hnb11 := NB101_102.1; have hnc11 := NB102_101.1; obtain ⟨hcz12_0, hcz12_1, hcz12_2⟩ := cells3 BK101.1; obtain ⟨hfz12_0, hfz12_1, hfz12_2⟩ := froz3 BK101.1; obtain ⟨hcz13_0, hcz13_1, hcz13_2⟩ := cells3 BK102.1; obtain ⟨hfz13_0, hfz13_1, hfz13_2⟩ := froz3 BK102.1; go_wp2; (repeat (go_quiet (fail); try go_wp2)); go_meet
    case rel => exact ⟨_, (true), rfl, H', ⟨by first | omega | exact Nat.le_refl _⟩, ⟨qb BK101.1⟩, ⟨qb BK102.1⟩, ⟨qB HB.1⟩⟩
  ·rw [if_neg c6] at H; have c6b0 : (a0_0 == a1_0) = false := beq_eq_false_iff_ne.mpr c6; have c6b1 : (a0_0 != a1_0) = true := bne_iff_ne.mpr c6; (first | rw [c6b0] | (simp only [i64_w, i32_w]; rw [c6b0]) | skip); have H' := Q0.mk H; clear H; have hnb14 := NB101_102.1; have hnc14 := NB102_101.1; obtain ⟨hcz15_0, hcz15_1, hcz15_2⟩ := cells3 BK101.1; obtain ⟨hfz15_0, hfz15_1, hfz15_2⟩ := froz3 BK101.1; obtain ⟨hcz16_0, hcz16_1, hcz16_2⟩ := cells3 BK102.1; obtain ⟨hfz16_0, hfz16_1, hfz16_2⟩ := froz3 BK102.1; go_wp2; (repeat (go_quiet (fail); try go_wp2)); go_meet
   case rel => exact ⟨_, (true), rfl, H', ⟨by first | omega | exact Nat.le_refl _⟩, ⟨qb BK101.1⟩, ⟨qb BK102.1⟩, ⟨qB HB.1⟩⟩
 case rest =>
  clear HC3; (try clear c1); (try clear p2); (try clear c6); (try clear c6b0); (try clear c6b1); (try clear c7); (try clear c7b0); (try clear c7b1); (try clear c7b2); (try clear c8); (try clear c11); (try clear c14); (try clear hcz10_0 hcz10_1 hcz10_2); (try clear hcz12_0 hcz12_1 hcz12_2); (try clear hcz13_0 hcz13_1 hcz13_2); (try clear hcz15_0 hcz15_1 hcz15_2); (try clear hcz16_0 hcz16_1 hcz16_2); (try clear hcz9_0 hcz9_1 hcz9_2); (try clear hfz10_0 hfz10_1 hfz10_2); (try clear hfz12_0 hfz12_1 hfz12_2); (try clear hfz13_0 hfz13_1 hfz13_2); (try clear hfz15_0 hfz15_1 hfz15_2); (try clear hfz16_0 hfz16_1 hfz16_2); (try clear hfz9_0 hfz9_1 hfz9_2); obtain ⟨kq, x30_2, rfl, HA, HJ2, BK101, BK102, HB⟩ := hcut
  cases kq with
  | zero => exact absurd HA.1 (by simp [cr22_Same.j0])
  | succ kj2 =>
   have H := HA.1; clear HA; simp only [cr22_Same.j0] at H
   by_cases c17 : x30_2 = true
   ·subst c17; (have H1 : (some false) = some r := by rw [if_pos rfl] at H; exact H); clear H; have H := H1; clear H1; obtain rfl := Option.some.inj H; go_wp2; (repeat (go_quiet (fail); try go_wp2)); go_ret; exact ⟨rfl, qB HB.1⟩
   ·replace c17 := Bool.eq_false_iff.mpr c17; subst c17; (have H1 : (cr22_Same.l0 kj2 0 a0_0 l0_1 l0_2 a1_0 l1_1 l1_2) = some r := by rw [if_neg (show ¬ (false = true) by decide)] at H; exact H); clear H; have H := H1; clear H1; have H' := Q0.mk H; clear H; go_wp2; (repeat (go_quiet (fail); try go_wp2)); (go_loopg [5] kj2 (fun kq v5 w' => ∃ (x5_2 : Int), v5 = .int .i64 x5_2 ∧ Q0 (cr22_Same.l0 kq x5_2 a0_0 l0_1 l0_2 a1_0 l1_1 l1_2 = some r) ∧ Q0 (kq ≤ kj2) ∧ Q0 (w'.heap[gb101]? = some (.cells #[.int .i64 a0_0, (.slice A0_1 l0_1.length c0_1), (.slice A0_2 l0_2.length c0_2)] 25 (0, 0))) ∧ Q0 (w'.heap[gb102]? = some (.cells #[.int .i64 a1_0, (.slice A1_1 l1_1.length c1_1), (.slice A1_2 l1_2.length c1_2)] 25 (0, 0))) ∧ Q0 (Below w.heap.size w w')))
    case atStart => exact ⟨(0), rfl, H', ⟨Nat.le_refl _⟩, ⟨qb BK101.1⟩, ⟨qb BK102.1⟩, ⟨qB HB.1⟩⟩
    case round =>
     clear H'; (try clear c1); (try clear p2); (try clear c6); (try clear c6b0); (try clear c6b1); (try clear c7); (try clear c7b0); (try clear c7b1); (try clear c7b2); (try clear c8); (try clear c11); (try clear c14); (try clear c17); (try clear hcz10_0 hcz10_1 hcz10_2); (try clear hcz12_0 hcz12_1 hcz12_2); (try clear hcz13_0 hcz13_1 hcz13_2); (try clear hcz15_0 hcz15_1 hcz15_2); (try clear hcz16_0 hcz16_1 hcz16_2); (try clear hcz9_0 hcz9_1 hcz9_2); (try clear hfz10_0 hfz10_1 hfz10_2); (try clear hfz12_0 hfz12_1 hfz12_2); (try clear hfz13_0 hfz13_1 hfz13_2); (try clear hfz15_0 hfz15_1 hfz15_2); (try clear hfz16_0 hfz16_1 hfz16_2); (try clear hfz9_0 hfz9_1 hfz9_2); (try clear p2); obtain ⟨x5_2, rfl, HA, HK2, BK101, BK102, HB⟩ := hrel
     cases gk with
     | zero => exact absurd HA.1 (by simp [cr22_Same.l0])
     | succ k2 =>
      have H := HA.1; clear HA; simp only [cr22_Same.l0] at H
      by_cases c18 : x5_2 < (l0_1.length : Int)
      ·rw [if_pos c18] at H; have c18b0 : decide (x5_2 < (l0_1.length : Int)) = true := decide_eq_true c18; clear c18
       by_cases c19 : 0 ≤ x5_2
       ·rw [if_pos c19] at H; have c19b0 : decide (0 ≤ x5_2) = true := decide_eq_true c19; clear c19
        by_cases c20 : x5_2 < (l1_1.length : Int)
        ·rw [if_pos c20] at H; have c20b0 : decide (x5_2 < (l1_1.length : Int)) = true := decide_eq_true c20; clear c20
         by_cases c21 : ((rd_L5 l0_1 x5_2).length : Int) = ((rd_L5 l1_1 x5_2).length : Int)
         ·rw [if_pos c21] at H; have c21b0 : (((rd_L5 l0_1 x5_2).length : Int) == ((rd_L5 l1_1 x5_2).length : Int)) = true := beq_iff_eq.mpr c21; have c21b1 : (((rd_L5 l0_1 x5_2).length : Int) != ((rd_L5 l1_1 x5_2).length : Int)) = false := bne_eq_false_iff_eq.mpr c21; (have c21b2 : ((rd_L5 l0_1 x5_2).length == (rd_L5 l1_1 x5_2).length) = true := by first | simpa using c21 | (simp at c21 ⊢; omega)); clear c21; have H' := Q0.mk H; clear H; have hnb22 := NB101_102.1; have hnc22 := NB102_101.1; obtain ⟨hcz23_0, hcz23_1, hcz23_2⟩ := cells3 BK101.1; obtain ⟨hfz23_0, hfz23_1, hfz23_2⟩ := froz3 BK101.1; have p103 : 0 ≤ (x5_2 : Int) := qd; have q103 : x5_2 < (l0_1.length : Int) := qd; obtain ⟨ad103, A103_0, c103_0, e103, hx103_0, hl103_0, hi103_0⟩ := at_L5 HR0_1.1 x5_2 p103 q103; cases e103; replace hx103_0 := (HB.1.cell (World.block_lt_of_cell? w _ hx103_0)).trans hx103_0; have HR103_0 := Q0.mk hi103_0; have HC103_0 := Q0.mk hl103_0; clear hi103_0 hl103_0; replace p103 := eq_true p103; replace q103 := eq_true q103; obtain ⟨hcz24_0, hcz24_1, hcz24_2⟩ := cells3 BK102.1; obtain ⟨hfz24_0, hfz24_1, hfz24_2⟩ := froz3 BK102.1; have p104 : 0 ≤ (x5_2 : Int) := qd; have q104 : x5_2 < (l1_1.length : Int) := qd; obtain ⟨ad104, A104_0, c104_0, e104, hx104_0, hl104_0, hi104_0⟩ := at_L5 HR1_1.1 x5_2 p104 q104; cases e104; replace hx104_0 := (HB.1.cell (World.block_lt_of_cell? w _ hx104_0)).trans hx104_0; have HR104_0 := Q0.mk hi104_0; have HC104_0 := Q0.mk hl104_0; clear hi104_0 hl104_0; replace p104 := eq_true p104; replace q104 := eq_true q104; go_wp2; (repeat (go_quiet (fail); try go_wp2)); (go_loopg [6] k2 (fun kq v6 w' => ∃ (x6_3 : Int), v6 = .int .i64 x6_3 ∧ Q0 (cr22_Same.l1 kq x5_2 x6_3 a0_0 l0_1 l0_2 a1_0 l1_1 l1_2 = some r) ∧ Q0 (kq ≤ k2) ∧ Q0 (w'.heap[gb101]? = some (.cells #[.int .i64 a0_0, (.slice (some ad103) l0_1.length c0_1), (.slice A0_2 l0_2.length c0_2)] 25 (0, 0))) ∧ Q0 (w'.heap[gb102]? = some (.cells #[.int .i64 a1_0, (.slice (some ad104) l1_1.length c1_1), (.slice A1_2 l1_2.length c1_2)] 25 (0, 0))) ∧ Q0 (Below w.heap.size w w')))
          case atStart => exact ⟨(0), rfl, H', ⟨Nat.le_refl _⟩, ⟨qb BK101.1⟩, ⟨qb BK102.1⟩, ⟨qB HB.1⟩⟩
          case round =>
           clear H'; (try clear c1); (try clear p1); (try clear q1); (try clear hx1); (try clear c2); (try clear p2); (try clear c6); (try clear c6b0); (try clear c6b1); (try clear c7); (try clear c7b0); (try clear c7b1); (try clear c7b2); (try clear c8); (try clear c10); (try clear p10); (try clear q10); (try clear hx10); (try clear c11); (try clear c14); (try clear c17); (try clear c18); (try clear c18b0); (try clear c19); (try clear c19b0); (try clear c20); (try clear c20b0); (try clear c21); (try clear c21b0); (try clear c21b1); (try clear c21b2); (try clear c22); (try clear hcz10_0 hcz10_1 hcz10_2); (try clear hcz12_0 hcz12_1 hcz12_2); (try clear hcz13_0 hcz13_1 hcz13_2); (try clear hcz15_0 hcz15_1 hcz15_2); (try clear hcz16_0 hcz16_1 hcz16_2); (try clear hcz23_0 hcz23_1 hcz23_2); (try clear hcz24_0 hcz24_1 hcz24_2); (try clear hcz9_0 hcz9_1 hcz9_2); (try clear hfz10_0 hfz10_1 hfz10_2); (try clear hfz12_0 hfz12_1 hfz12_2); (try clear hfz13_0 hfz13_1 hfz13_2); (try clear hfz15_0 hfz15_1 hfz15_2); (try clear hfz16_0 hfz16_1 hfz16_2); (try clear hfz23_0 hfz23_1 hfz23_2); (try clear hfz24_0 hfz24_1 hfz24_2); (try clear hfz9_0 hfz9_1 hfz9_2); (try clear hx103_0); (try clear hx104_0); (try clear p103); (try clear p104); (try clear p2); (try clear q103); (try clear q104); obtain ⟨x6_3, rfl, HA, HK3, BK101, BK102, HB⟩ := hrel
           cases gk with
           | zero => exact absurd HA.1 (by simp [cr22_Same.l1])
           | succ k3 =>
            have H := HA.1; clear HA; simp only [cr22_Same.l1] at H
            by_cases c25 : 0 ≤ x5_2
            ·rw [if_pos c25] at H; have c25b0 : decide (0 ≤ x5_2) = true := decide_eq_true c25; clear c25
             by_cases c26 : x5_2 < (l0_1.length : Int)
             ·rw [if_pos c26] at H; have c26b0 : decide (x5_2 < (l0_1.length : Int)) = true := decide_eq_true c26; clear c26
              by_cases c27 : x6_3 < ((rd_L5 l0_1 x5_2).length : Int)
              ·rw [if_pos c27] at H; have c27b0 : decide (x6_3 < ((rd_L5 l0_1 x5_2).length : Int)) = true := decide_eq_true c27; clear c27
               by_cases c28 : 0 ≤ x6_3
               ·rw [if_pos c28] at H; have c28b0 : decide (0 ≤ x6_3) = true := decide_eq_true c28; clear c28
                by_cases c29 : x5_2 < (l1_1.length : Int)
                ·rw [if_pos c29] at H; have c29b0 : decide (x5_2 < (l1_1.length : Int)) = true := decide_eq_true c29; clear c29
                 by_cases c30 : x6_3 < ((rd_L5 l1_1 x5_2).length : Int)
                 ·rw [if_pos c30] at H; have c30b0 : decide (x6_3 < ((rd_L5 l1_1 x5_2).length : Int)) = true := decide_eq_true c30; clear c30
                  by_cases c31 : (rd (rd_L5 l0_1 x5_2) x6_3) = (rd (rd_L5 l1_1 x5_2) x6_3)
                  ·rw [if_pos c31] at H; have c31b0 : ((rd (rd_L5 l0_1 x5_2) x6_3) == (rd (rd_L5 l1_1 x5_2) x6_3)) = true := beq_iff_eq.mpr c31; have c31b1 : ((rd (rd_L5 l0_1 x5_2) x6_3) != (rd (rd_L5 l1_1 x5_2) x6_3)) = false := bne_eq_false_iff_eq.mpr c31; clear c31; have H' := Q0.mk H; clear H; have hnb32 := NB101_102.1; have hnc32 := NB102_101.1; obtain ⟨hcz33_0, hcz33_1, hcz33_2⟩ := cells3 BK101.1; obtain ⟨hfz33_0, hfz33_1, hfz33_2⟩ := froz3 BK101.1; have p105 : 0 ≤ (x5_2 : Int) := qd; have q105 : x5_2 < (l0_1.length : Int) := qd; obtain ⟨ad105, A105_0, c105_0, e105, hx105_0, hl105_0, hi105_0⟩ := at_L5 HR0_1.1 x5_2 p105 q105; (obtain rfl : ad103 = ad105 := (by injection e105)); replace hx105_0 := (HB.1.cell (World.block_lt_of_cell? w _ hx105_0)).trans hx105_0; have HR105_0 := Q0.mk hi105_0; have HC105_0 := Q0.mk hl105_0; clear hi105_0 hl105_0; replace p105 := eq_true p105; replace q105 := eq_true q105; have p106 : 0 ≤ (x5_2 : Int) := qd; have q106 : x5_2 < (l0_1.length : Int) := qd; obtain ⟨ad106, A106_0, c106_0, e106, hx106_0, hl106_0, hi106_0⟩ := at_L5 HR0_1.1 x5_2 p106 q106; (obtain rfl : ad103 = ad106 := (by injection e106)); replace hx106_0 := (HB.1.cell (World.block_lt_of_cell? w _ hx106_0)).trans hx106_0; have HR106_0 := Q0.mk hi106_0; have HC106_0 := Q0.mk hl106_0; clear hi106_0 hl106_0; replace p106 := eq_true p106; replace q106 := eq_true q106; have ea_ := Option.some.inj (hx105_0.symm.trans hx106_0)
                   injection ea_ with ea_ en_ ec_
                   subst ea_; subst ec_; clear en_; have p107 : 0 ≤ (x6_3 : Int) := qd; have q107 : x6_3 < ((rd_L5 l0_1 x5_2).length : Int) := qd; obtain ⟨ad107, e107, hx107_0⟩ := Kd.at_int HR106_0.1 x6_3 p107 q107; cases e107; replace hx107_0 := (HB.1.cell (World.block_lt_of_cell? w _ hx107_0)).trans hx107_0; replace p107 := eq_true p107; replace q107 := eq_true q107; obtain ⟨hcz34_0, hcz34_1, hcz34_2⟩ := cells3 BK102.1; obtain ⟨hfz34_0, hfz34_1, hfz34_2⟩ := froz3 BK102.1; have p108 : 0 ≤ (x5_2 : Int) := qd; have q108 : x5_2 < (l1_1.length : Int) := qd; obtain ⟨ad108, A108_0, c108_0, e108, hx108_0, hl108_0, hi108_0⟩ := at_L5 HR1_1.1 x5_2 p108 q108; (obtain rfl : ad104 = ad108 := (by injection e108)); replace hx108_0 := (HB.1.cell (World.block_lt_of_cell? w _ hx108_0)).trans hx108_0; have HR108_0 := Q0.mk hi108_0; have HC108_0 := Q0.mk hl108_0; clear hi108_0 hl108_0; replace p108 := eq_true p108; replace q108 := eq_true q108; have p109 : 0 ≤ (x6_3 : Int) := qd; have q109 : x6_3 < ((rd_L5 l1_1 x5_2).length : Int) := qd; obtain ⟨ad109, e109, hx109_0⟩ := Kd.at_int HR108_0.1 x6_3 p109 q109; cases e109; replace hx109_0 := (HB.1.cell (World.block_lt_of_cell? w _ hx109_0)).trans hx109_0; replace p109 := eq_true p109; replace q109 := eq_true q109; go_wp2; (repeat (go_quiet (fail); try go_wp2)); go_roundg k3
                   case measure => have := HJ2.1; have := HK2.1; have := HK3.1; omega
                   case rel => exact ⟨(wrap64 (x6_3 + 1)), rfl, H', ⟨by have := HJ2.1; have := HK2.1; have := HK3.1; omega⟩, ⟨qb BK101.1⟩, ⟨qb BK102.1⟩, ⟨qB HB.1⟩⟩
                  ·rw [if_neg c31] at H; have c31b0 : ((rd (rd_L5 l0_1 x5_2) x6_3) == (rd (rd_L5 l1_1 x5_2) x6_3)) = false := beq_eq_false_iff_ne.mpr c31; have c31b1 : ((rd (rd_L5 l0_1 x5_2) x6_3) != (rd (rd_L5 l1_1 x5_2) x6_3)) = true := bne_iff_ne.mpr c31; obtain rfl := Option.some.inj H; have hnb35 := NB101_102.1; have hnc35 := NB102_101.1; obtain ⟨hcz36_0, hcz36_1, hcz36_2⟩ := cells3 BK101.1; obtain ⟨hfz36_0, hfz36_1, hfz36_2⟩ := froz3 BK101.1; have p105 : 0 ≤ (x5_2 : Int) := qd; have q105 : x5_2 < (l0_1.length : Int) := qd; obtain ⟨ad105, A105_0, c105_0, e105, hx105_0, hl105_0, hi105_0⟩ := at_L5 HR0_1.1 x5_2 p105 q105; (obtain rfl : ad103 = ad105 := (by injection e105)); replace hx105_0 := (HB.1.cell (World.block_lt_of_cell? w _ hx105_0)).trans hx105_0; have HR105_0 := Q0.mk hi105_0; have HC105_0 := Q0.mk hl105_0; clear hi105_0 hl105_0; replace p105 := eq_true p105; replace q105 := eq_true q105; have p106 : 0 ≤ (x5_2 : Int) := qd; have q106 : x5_2 < (l0_1.length : Int) := qd; obtain ⟨ad106, A106_0, c106_0, e106, hx106_0, hl106_0, hi106_0⟩ := at_L5 HR0_1.1 x5_2 p106 q106; (obtain rfl : ad103 = ad106 := (by injection e106)); replace hx106_0 := (HB.1.cell (World.block_lt_of_cell? w _ hx106_0)).trans hx106_0; have HR106_0 := Q0.mk hi106_0; have HC106_0 := Q0.mk hl106_0; clear hi106_0 hl106_0; replace p106 := eq_true p106; replace q106 := eq_true q106; have ea_ := Option.some.inj (hx105_0.symm.trans hx106_0)
                   injection ea_ with ea_ en_ ec_
                   subst ea_; subst ec_; clear en_; have p107 : 0 ≤ (x6_3 : Int) := qd; have q107 : x6_3 < ((rd_L5 l0_1 x5_2).length : Int) := qd; obtain ⟨ad107, e107, hx107_0⟩ := Kd.at_int HR106_0.1 x6_3 p107 q107; cases e107; replace hx107_0 := (HB.1.cell (World.block_lt_of_cell? w _ hx107_0)).trans hx107_0; replace p107 := eq_true p107; replace q107 := eq_true q107; obtain ⟨hcz37_0, hcz37_1, hcz37_2⟩ := cells3 BK102.1; obtain ⟨hfz37_0, hfz37_1, hfz37_2⟩ := froz3 BK102.1; have p108 : 0 ≤ (x5_2 : Int) := qd; have q108 : x5_2 < (l1_1.length : Int) := qd; obtain ⟨ad108, A108_0, c108_0, e108, hx108_0, hl108_0, hi108_0⟩ := at_L5 HR1_1.1 x5_2 p108 q108; (obtain rfl : ad104 = ad108 := (by injection e108)); replace hx108_0 := (HB.1.cell (World.block_lt_of_cell? w _ hx108_0)).trans hx108_0; have HR108_0 := Q0.mk hi108_0; have HC108_0 := Q0.mk hl108_0; clear hi108_0 hl108_0; replace p108 := eq_true p108; replace q108 := eq_true q108; have p109 : 0 ≤ (x6_3 : Int) := qd; have q109 : x6_3 < ((rd_L5 l1_1 x5_2).length : Int) := qd; obtain ⟨ad109, e109, hx109_0⟩ := Kd.at_int HR108_0.1 x6_3 p109 q109; cases e109; replace hx109_0 := (HB.1.cell (World.block_lt_of_cell? w _ hx109_0)).trans hx109_0; replace p109 := eq_true p109; replace q109 := eq_true q109; go_wp2; (repeat (go_quiet (fail); try go_wp2)); go_ret; exact ⟨rfl, qB HB.1⟩
                 ·rw [if_neg c30] at H; (exact absurd H (by simp))
                ·rw [if_neg c29] at H; (exact absurd H (by simp))
               ·rw [if_neg c28] at H; (exact absurd H (by simp))
              ·rw [if_neg c27] at H; have c27b0 : decide (x6_3 < ((rd_L5 l0_1 x5_2).length : Int)) = false := decide_eq_false c27; clear c27; have H' := Q0.mk H; clear H; have hnb38 := NB101_102.1; have hnc38 := NB102_101.1; obtain ⟨hcz39_0, hcz39_1, hcz39_2⟩ := cells3 BK101.1; obtain ⟨hfz39_0, hfz39_1, hfz39_2⟩ := froz3 BK101.1; have p105 : 0 ≤ (x5_2 : Int) := qd; have q105 : x5_2 < (l0_1.length : Int) := qd; obtain ⟨ad105, A105_0, c105_0, e105, hx105_0, hl105_0, hi105_0⟩ := at_L5 HR0_1.1 x5_2 p105 q105; (obtain rfl : ad103 = ad105 := (by injection e105)); replace hx105_0 := (HB.1.cell (World.block_lt_of_cell? w _ hx105_0)).trans hx105_0; have HR105_0 := Q0.mk hi105_0; have HC105_0 := Q0.mk hl105_0; clear hi105_0 hl105_0; replace p105 := eq_true p105; replace q105 := eq_true q105; go_wp2; (repeat (go_quiet (fail); try go_wp2)); go_roundg k3
               case measure => have := HJ2.1; have := HK2.1; have := HK3.1; omega
               case rel => exact ⟨(wrap64 (x5_2 + 1)), rfl, H', ⟨by have := HJ2.1; have := HK2.1; have := HK3.1; omega⟩, ⟨qb BK101.1⟩, ⟨qb BK102.1⟩, ⟨qB HB.1⟩⟩
             ·rw [if_neg c26] at H; (exact absurd H (by simp))
            ·rw [if_neg c25] at H; (exact absurd H (by simp))
         ·rw [if_neg c21] at H; have c21b0 : (((rd_L5 l0_1 x5_2).length : Int) == ((rd_L5 l1_1 x5_2).length : Int)) = false := beq_eq_false_iff_ne.mpr c21; have c21b1 : (((rd_L5 l0_1 x5_2).length : Int) != ((rd_L5 l1_1 x5_2).length : Int)) = true := bne_iff_ne.mpr c21; (have c21b2 : ((rd_L5 l0_1 x5_2).length == (rd_L5 l1_1 x5_2).length) = false := by first | simpa using c21 | (simp at c21 ⊢; omega)); obtain rfl := Option.some.inj H; have hnb40 := NB101_102.1; have hnc40 := NB102_101.1; obtain ⟨hcz41_0, hcz41_1, hcz41_2⟩ := cells3 BK101.1; obtain ⟨hfz41_0, hfz41_1, hfz41_2⟩ := froz3 BK101.1; have p103 : 0 ≤ (x5_2 : Int) := qd; have q103 : x5_2 < (l0_1.length : Int) := qd; obtain ⟨ad103, A103_0, c103_0, e103, hx103_0, hl103_0, hi103_0⟩ := at_L5 HR0_1.1 x5_2 p103 q103; cases e103; replace hx103_0 := (HB.1.cell (World.block_lt_of_cell? w _ hx103_0)).trans hx103_0; have HR103_0 := Q0.mk hi103_0; have HC103_0 := Q0.mk hl103_0; clear hi103_0 hl103_0; replace p103 := eq_true p103; replace q103 := eq_true q103; obtain ⟨hcz42_0, hcz42_1, hcz42_2⟩ := cells3 BK102.1; obtain ⟨hfz42_0, hfz42_1, hfz42_2⟩ := froz3 BK102.1; have p104 : 0 ≤ (x5_2 : Int) := qd; have q104 : x5_2 < (l1_1.length : Int) := qd; obtain ⟨ad104, A104_0, c104_0, e104, hx104_0, hl104_0, hi104_0⟩ := at_L5 HR1_1.1 x5_2 p104 q104; cases e104; replace hx104_0 := (HB.1.cell (World.block_lt_of_cell? w _ hx104_0)).trans hx104_0; have HR104_0 := Q0.mk hi104_0; have HC104_0 := Q0.mk hl104_0; clear hi104_0 hl104_0; replace p104 := eq_true p104; replace q104 := eq_true q104; go_wp2; (repeat (go_quiet (fail); try go_wp2)); go_ret; exact ⟨rfl, qB HB.1⟩
        ·rw [if_neg c20] at H; (exact absurd H (by simp))
       ·rw [if_neg c19] at H; (exact absurd H (by simp))
      ·rw [if_neg c18] at H; have c18b0 : decide (x5_2 < (l0_1.length : Int)) = false := decide_eq_false c18; clear c18; have H' := Q0.mk H; clear H; have hnb43 := NB101_102.1; have hnc43 := NB102_101.1; obtain ⟨hcz44_0, hcz44_1, hcz44_2⟩ := cells3 BK101.1; obtain ⟨hfz44_0, hfz44_1, hfz44_2⟩ := froz3 BK101.1; go_wp2; (repeat (go_quiet (fail); try go_wp2)); (go_loopg [7] k2 (fun kq v7 w' => ∃ (x7_3 : Int), v7 = .int .i64 x7_3 ∧ Q0 (cr22_Same.l2 kq x7_3 a0_0 l0_1 l0_2 a1_0 l1_1 l1_2 = some r) ∧ Q0 (kq ≤ k2) ∧ Q0 (w'.heap[gb101]? = some (.cells #[.int .i64 a0_0, (.slice A0_1 l0_1.length c0_1), (.slice A0_2 l0_2.length c0_2)] 25 (0, 0))) ∧ Q0 (w'.heap[gb102]? = some (.cells #[.int .i64 a1_0, (.slice A1_1 l1_1.length c1_1), (.slice A1_2 l1_2.length c1_2)] 25 (0, 0))) ∧ Q0 (Below w.heap.size w w')))
       case atStart => exact ⟨(0), rfl, H', ⟨Nat.le_refl _⟩, ⟨qb BK101.1⟩, ⟨qb BK102.1⟩, ⟨qB HB.1⟩⟩
       case round =>
        clear H'; (try clear c1); (try clear p1); (try clear q1); (try clear hx1); (try clear c2); (try clear p2); (try clear c3); (try clear c4); (try clear c6); (try clear c6b0); (try clear c6b1); (try clear p6); (try clear c7); (try clear c7b0); (try clear c7b1); (try clear c7b2); (try clear c8); (try clear c10); (try clear p10); (try clear q10); (try clear hx10); (try clear c11); (try clear c14); (try clear c17); (try clear c18); (try clear c18b0); (try clear c19); (try clear c19b0); (try clear c20); (try clear c20b0); (try clear c21); (try clear c21b0); (try clear c21b1); (try clear c21b2); (try clear c22); (try clear c25); (try clear c25b0); (try clear c26); (try clear c26b0); (try clear c27); (try clear c27b0); (try clear c28); (try clear c28b0); (try clear c29); (try clear c29b0); (try clear c30); (try clear c30b0); (try clear c31); (try clear c31b0); (try clear c31b1); (try clear c32); (try clear c35); (try clear c38); (try clear c40); (try clear c43); (try clear hcz10_0 hcz10_1 hcz10_2); (try clear hcz12_0 hcz12_1 hcz12_2); (try clear hcz13_0 hcz13_1 hcz13_2); (try clear hcz15_0 hcz15_1 hcz15_2); (try clear hcz16_0 hcz16_1 hcz16_2); (try clear hcz23_0 hcz23_1 hcz23_2); (try clear hcz24_0 hcz24_1 hcz24_2); (try clear hcz33_0 hcz33_1 hcz33_2); (try clear hcz34_0 hcz34_1 hcz34_2); (try clear hcz36_0 hcz36_1 hcz36_2); (try clear hcz37_0 hcz37_1 hcz37_2); (try clear hcz39_0 hcz39_1 hcz39_2); (try clear hcz41_0 hcz41_1 hcz41_2); (try clear hcz42_0 hcz42_1 hcz42_2); (try clear hcz44_0 hcz44_1 hcz44_2); (try clear hcz9_0 hcz9_1 hcz9_2); (try clear hfz10_0 hfz10_1 hfz10_2); (try clear hfz12_0 hfz12_1 hfz12_2); (try clear hfz13_0 hfz13_1 hfz13_2); (try clear hfz15_0 hfz15_1 hfz15_2); (try clear hfz16_0 hfz16_1 hfz16_2); (try clear hfz23_0 hfz23_1 hfz23_2); (try clear hfz24_0 hfz24_1 hfz24_2); (try clear hfz33_0 hfz33_1 hfz33_2); (try clear hfz34_0 hfz34_1 hfz34_2); (try clear hfz36_0 hfz36_1 hfz36_2); (try clear hfz37_0 hfz37_1 hfz37_2); (try clear hfz39_0 hfz39_1 hfz39_2); (try clear hfz41_0 hfz41_1 hfz41_2); (try clear hfz42_0 hfz42_1 hfz42_2); (try clear hfz44_0 hfz44_1 hfz44_2); (try clear hfz9_0 hfz9_1 hfz9_2); (try clear hx103_0); (try clear hx104_0); (try clear hx105_0); (try clear hx106_0); (try clear hx107_0); (try clear hx108_0); (try clear hx109_0); (try clear p1); (try clear p10); (try clear p103); (try clear p104); (try clear p105); (try clear p106); (try clear p107); (try clear p108); (try clear p109); (try clear p2); (try clear q1); (try clear q10); (try clear q103); (try clear q104); (try clear q105); (try clear q106); (try clear q107); (try clear q108); (try clear q109); obtain ⟨x7_3, rfl, HA, HK3, BK101, BK102, HB⟩ := hrel
        cases gk with
        | zero => exact absurd HA.1 (by simp [cr22_Same.l2])
        | succ k3 =>
         have H := HA.1; clear HA; simp only [cr22_Same.l2] at H
         by_cases c45 : x7_3 < (l0_2.length : Int)
         ·rw [if_pos c45] at H; have c45b0 : decide (x7_3 < (l0_2.length : Int)) = true := decide_eq_true c45; clear c45
          by_cases c46 : 0 ≤ x7_3
          ·rw [if_pos c46] at H; have c46b0 : decide (0 ≤ x7_3) = true := decide_eq_true c46; clear c46
           by_cases c47 : x7_3 < (l1_2.length : Int)
           ·rw [if_pos c47] at H; have c47b0 : decide (x7_3 < (l1_2.length : Int)) = true := decide_eq_true c47; clear c47
            by_cases c48 : ((rdOf false l0_2 x7_3) != (rdOf false l1_2 x7_3)) = true
            ·rw [if_pos c48] at H; have c48b0 : ((rdOf false l0_2 x7_3) != (rdOf false l1_2 x7_3)) = true := c48; (try (have c48b1 : decide ((rdOf false l0_2 x7_3) = (rdOf false l1_2 x7_3)) = false := by simpa using c48)); (try (have c48b2 : ((rdOf false l0_2 x7_3) == (rdOf false l1_2 x7_3)) = false := by simpa using c48)); (try (have c48b3 : ¬ ((rdOf false l0_2 x7_3) = (rdOf false l1_2 x7_3)) := by simpa using c48)); clear c48; obtain rfl := Option.some.inj H; have hnb49 := NB101_102.1; have hnc49 := NB102_101.1; obtain ⟨hcz50_0, hcz50_1, hcz50_2⟩ := cells3 BK101.1; obtain ⟨hfz50_0, hfz50_1, hfz50_2⟩ := froz3 BK101.1; have p110 : 0 ≤ (x7_3 : Int) := qd; have q110 : x7_3 < (l0_2.length : Int) := qd; obtain ⟨ad110, e110, hx110_0⟩ := Kd.at_bool HR0_2.1 x7_3 p110 q110; cases e110; replace hx110_0 := (HB.1.cell (World.block_lt_of_cell? w _ hx110_0)).trans hx110_0; replace p110 := eq_true p110; replace q110 := eq_true q110; obtain ⟨hcz51_0, hcz51_1, hcz51_2⟩ := cells3 BK102.1; obtain ⟨hfz51_0, hfz51_1, hfz51_2⟩ := froz3 BK102.1; have p111 : 0 ≤ (x7_3 : Int) := qd; have q111 : x7_3 < (l1_2.length : Int) := qd; obtain ⟨ad111, e111, hx111_0⟩ := Kd.at_bool HR1_2.1 x7_3 p111 q111; cases e111; replace hx111_0 := (HB.1.cell (World.block_lt_of_cell? w _ hx111_0)).trans hx111_0; replace p111 := eq_true p111; replace q111 := eq_true q111; go_wp2; (repeat (go_quiet (fail); try go_wp2)); go_ret; exact ⟨rfl, qB HB.1⟩
            ·rw [if_neg c48] at H; (have c48b0 : ((rdOf false l0_2 x7_3) != (rdOf false l1_2 x7_3)) = false := by simpa using c48); (try (have c48b1 : decide ((rdOf false l0_2 x7_3) = (rdOf false l1_2 x7_3)) = true := by simpa using c48)); (try (have c48b2 : ((rdOf false l0_2 x7_3) == (rdOf false l1_2 x7_3)) = true := by simpa using c48)); clear c48; have H' := Q0.mk H; clear H; have hnb52 := NB101_102.1; have hnc52 := NB102_101.1; obtain ⟨hcz53_0, hcz53_1, hcz53_2⟩ := cells3 BK101.1; obtain ⟨hfz53_0, hfz53_1, hfz53_2⟩ := froz3 BK101.1; have p110 : 0 ≤ (x7_3 : Int) := qd; have q110 : x7_3 < (l0_2.length : Int) := qd; obtain ⟨ad110, e110, hx110_0⟩ := Kd.at_bool HR0_2.1 x7_3 p110 q110; cases e110; replace hx110_0 := (HB.1.cell (World.block_lt_of_cell? w _ hx110_0)).trans hx110_0; replace p110 := eq_true p110; replace q110 := eq_true q110; obtain ⟨hcz54_0, hcz54_1, hcz54_2⟩ := cells3 BK102.1; obtain ⟨hfz54_0, hfz54_1, hfz54_2⟩ := froz3 BK102.1; have p111 : 0 ≤ (x7_3 : Int) := qd; have q111 : x7_3 < (l1_2.length : Int) := qd; obtain ⟨ad111, e111, hx111_0⟩ := Kd.at_bool HR1_2.1 x7_3 p111 q111; cases e111; replace hx111_0 := (HB.1.cell (World.block_lt_of_cell? w _ hx111_0)).trans hx111_0; replace p111 := eq_true p111; replace q111 := eq_true q111; go_wp2; (repeat (go_quiet (fail); try go_wp2)); go_roundg k3
             case measure => have := HJ2.1; have := HK2.1; have := HK3.1; omega
             case rel => exact ⟨(wrap64 (x7_3 + 1)), rfl, H', ⟨by have := HJ2.1; have := HK2.1; have := HK3.1; omega⟩, ⟨qb BK101.1⟩, ⟨qb BK102.1⟩, ⟨qB HB.1⟩⟩
           ·rw [if_neg c47] at H; (exact absurd H (by simp))
          ·rw [if_neg c46] at H; (exact absurd H (by simp))
         ·rw [if_neg c45] at H; have c45b0 : decide (x7_3 < (l0_2.length : Int)) = false := decide_eq_false c45; clear c45; obtain rfl := Option.some.inj H; have hnb55 := NB101_102.1; have hnc55 := NB102_101.1; obtain ⟨hcz56_0, hcz56_1, hcz56_2⟩ := cells3 BK101.1; obtain ⟨hfz56_0, hfz56_1, hfz56_2⟩ := froz3 BK101.1; go_wp2; (repeat (go_quiet (fail); try go_wp2)); go_ret; exact ⟨rfl, qB HB.1⟩

end Go.Proofs.Ytelkjbacdpmnfaa.A
