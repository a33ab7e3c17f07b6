/- By a program, out of the translation (wip/myprint.py). -/
import Derived.Test.YtelkjbacdpmnfaaB0
import Derived.Test.YtelkjbacdpmnfaaBThompsonGood
namespace Go.Proofs.Ytelkjbacdpmnfaa.A
open Go.RowKit Go.W_.PrintWords Go.W_.PrintLast Go.W_.PrintMore
attribute [local go_sem] max2_int min2_int max_two min_two max_three min_three max_four min_four
set_option linter.unusedVariables false
set_option linter.unusedSimpArgs false

def product_Not.l0 : Nat → List (List Int) → Int → Int → Int → List (List Int) → List Bool → Int → List (List Int) → List Bool → Option (Int × (List (List Int)) × List Bool × Bool)
 | 0, _, _, _, _, _, _, _, _, _ => none
 | k + 1, x15, x16, x17, x102000, x102001, x102002, x105000, x105001, x105002 => if x17 < x16 then (if 0 ≤ x17 then (if x17 < (x15.length : Int) then ((some (([] : List Int) : List Int)).bind fun y106 => (if y106.length + (rd_L5 x15 x17).length < 17592186044416 then (if x105001.length < 5864062014805 then (if x17 < (x102002.length : Int) then (if x105002.length < 140737488355328 then (product_Not.l0 k x15 x16 (wrap64 (x17 + 1)) x102000 x102001 x102002 x105000 (x105001 ++ [(y106 ++ (rd_L5 x15 x17))]) (x105002 ++ [!(rdOf false x102002 x17)])) else (none)) else (none)) else (none)) else (none))) else (none)) else (none)) else (some (x105000, x105001, x105002, true))
def product_Not.f (k : Nat) (a0_0 : Int) (l0_1 : List (List Int)) (l0_2 : List Bool) : Option (Int × (List (List Int)) × List Bool × Bool) := (thompson_Good.f a0_0 l0_1 l0_2).bind fun t103 => (if t103 = true then (product_Not.l0 k l0_1 (l0_1.length : Int) 0 a0_0 l0_1 l0_2 a0_0 ([] : List (List Int)) ([] : List Bool)) else (some (0, ([] : List (List Int)), ([] : List Bool), false)))
theorem product_Not.mono_l : ∀ k, (∀ y0 y1 y2 y3 y4 y5 y6 y7 y8, LeO (product_Not.l0 k y0 y1 y2 y3 y4 y5 y6 y7 y8) (product_Not.l0 (k + 1) y0 y1 y2 y3 y4 y5 y6 y7 y8))
 | 0 => fun _ _ _ _ _ _ _ _ _ r h => by simp [product_Not.l0] at h
 | k + 1 => by
  have ih0 := product_Not.mono_l k
  ·intro y0 y1 y2 y3 y4 y5 y6 y7 y8
   unfold product_Not.l0
   repeat' first
   | (with_reducible exact ih0 _ _ _ _ _ _ _ _ _)
   | (with_reducible exact LeO.refl _)
   | (with_reducible exact LeO.none _)
   | (with_reducible refine LeO.ite ?_ ?_)
   | (with_reducible refine LeO.bind ?_ (fun _ => ?_))
   | exact ih0 _ _ _ _ _ _ _ _ _
   | exact LeO.none _
   | refine LeO.ite ?_ ?_
   | refine LeO.bind ?_ (fun _ => ?_)
theorem product_Not.mono : ∀ a0 a1 a2 k, LeO (product_Not.f k a0 a1 a2) (product_Not.f (k + 1) a0 a1 a2) := by
 intro a0 a1 a2 k
 have ih0 := product_Not.mono_l k
 unfold product_Not.f
 repeat' first
   | (with_reducible exact ih0 _ _ _ _ _ _ _ _ _)
   | (with_reducible exact LeO.refl _)
   | (with_reducible exact LeO.none _)
   | (with_reducible refine LeO.ite ?_ ?_)
   | (with_reducible refine LeO.bind ?_ (fun _ => ?_))
   | exact ih0 _ _ _ _ _ _ _ _ _
   | exact LeO.none _
   | refine LeO.ite ?_ ?_
   | refine LeO.bind ?_ (fun _ => ?_)
def product_Not.T7 : Bool × List (List Nat × List Nat) := (true, [([], []), ([0], [0]), ([], []), ([], []), ([2, 3], [2, 3]), ([4], [4]), ([1, 5, 4], [1, 5]), ([0, 1, 2, 3, 4, 5, 6], []), ([7, 6, 6, 0, 1, 2, 3, 4, 5, 6], [6, 7])])
def product_Not.B7 : List Nat := [0, 1, 0, 0, 12, 28, 63, 127, 255]
theorem product_Not.tab7 : rtab .any (opsOf Try.f77 7) = product_Not.T7 := by kernel_rfl
theorem product_Not.bits7 : waitsOk product_Not.T7.2 product_Not.B7 = true := by kernel_rfl
def product_Not.T8 : Bool × List (List Nat × List Nat) := (true, [([], []), ([0], [0]), ([], []), ([2], [2]), ([], []), ([3, 4], [3, 4]), ([5], [5]), ([6], [6]), ([7], [7]), ([1, 8], [1, 8]), ([0, 1, 2, 3, 4, 5, 6, 7, 8, 9], []), ([10, 9, 9, 0, 1, 2, 3, 4, 5, 6, 7, 8, 9], [9, 10])])
def product_Not.B8 : List Nat := [0, 1, 0, 4, 0, 28, 60, 124, 252, 511, 1023, 2047]
theorem product_Not.tab8 : rtab .any (opsOf Try.f77 8) = product_Not.T8 := by kernel_rfl
theorem product_Not.bits8 : waitsOk product_Not.T8.2 product_Not.B8 = true := by kernel_rfl
set_option maxHeartbeats 8000000 in
set_option maxRecDepth 100000 in
theorem product_Not.calls (k : Nat) (a0_0 : Int) (A0_1 : Option Addr) (c0_1 : Nat) (l0_1 : List (List Int)) (A0_2 : Option Addr) (c0_2 : Nat) (l0_2 : List Bool) (r1 : Int) (r2 : List (List Int)) (r3 : List Bool) (r4 : Bool) (w : World) (hr0_1 : Kd.C (Kd.slice 3 (Kd.int .i64)) w A0_1 l0_1.length l0_1) (hc0_1 : l0_1.length ≤ c0_1) (hr0_2 : Kd.C Kd.bool w A0_2 l0_2.length l0_2) (hc0_2 : l0_2.length ≤ c0_2) (h : product_Not.f k a0_0 l0_1 l0_2 = some (r1, r2, r3, r4)) :
  Calls Try.prog 77 #[.agg #[.int .i64 a0_0, .slice A0_1 l0_1.length c0_1, .slice A0_2 l0_2.length c0_2]] w fun e w' => ∃ v1_ v2_ : Value, e = .returned (.tuple #[.agg #[.int .i64 r1, v1_, v2_], .bool r4]) ∧ Kd.S (Kd.slice 3 (Kd.int .i64)) 45 w' w.heap.size (fun _ => True) v1_ r2 ∧ Kd.R Kd.bool 4 w' w.heap.size (fun _ => True) v2_ r3 ∧ Below w.heap.size w w' := by
 have hu25 := Try.underlying25
 have HR0_1 := Q0.mk hr0_1
 have HC0_1 := Q0.mk hc0_1
 clear hr0_1 hc0_1
 have HR0_2 := Q0.mk hr0_2
 have HC0_2 := Q0.mk hc0_2
 clear hr0_2 hc0_2
 have HB := Q0.mk (Below.refl w.heap.size w)
 have H : ((thompson_Good.f a0_0 l0_1 l0_2).bind fun t103 => (if t103 = true then (product_Not.l0 k l0_1 (l0_1.length : Int) 0 a0_0 l0_1 l0_2 a0_0 ([] : List (List Int)) ([] : List Bool)) else (some (0, ([] : List (List Int)), ([] : List Bool), false)))) = some (r1, r2, r3, r4) := h
 clear h
 replace H := Option.bind_eq_some_iff.mp H
 obtain ⟨t103, A20, H⟩ := H
 replace H : (if t103 = true then (product_Not.l0 k l0_1 (l0_1.length : Int) 0 a0_0 l0_1 l0_2 a0_0 ([] : List (List Int)) ([] : List Bool)) else (some (0, ([] : List (List Int)), ([] : List Bool), false))) = some (r1, r2, r3, r4) := H
 have A2 := Q0.mk A20
 clear A20
 by_cases c3 : t103 = true
 ·subst c3
  have H1 : (product_Not.l0 k l0_1 (l0_1.length : Int) 0 a0_0 l0_1 l0_2 a0_0 ([] : List (List Int)) ([] : List Bool)) = some (r1, r2, r3, r4) := by rw [if_pos rfl] at H; exact H
  clear H
  have H := H1
  clear H1
  have H' := Q0.mk H
  clear H
  go_enter Try.func77, Try.ntmps77
  go_wp2_with (first | ((with_reducible refine gate_dst (N := 1) rfl ?_); refine box_event ?hg (N := 1) ?hd (cs := #[.int .i64 a0_0, .slice A0_1 l0_1.length c0_1, .slice A0_2 l0_2.length c0_2]) (t := 25) ?hr ?_; (case hd => rfl); (case hg => rfl); (case hr => first | (go_simp; done) | (go_simp; rfl)); intro gb101 hg w4 hbox hb; have n0_ := Q0.mk (bsz (by repeat (first | (with_reducible first | exact HB.out | apply ba | apply pN | apply bD) | exact HB.out)) hb); have n1_ := Q0.mk (hbox); have n2_ := Q0.mk ((by rw [hg]; exact (below_size (by repeat (first | (with_reducible first | exact HB.out | apply ba | apply pN | apply bD) | exact HB.out))) : w.heap.size ≤ gb101)); have n3_ := Q0.mk ((by rw [hg]; exact (below_size (by repeat (first | (with_reducible first | exact HB.out | apply ba | apply pN | apply bD) | exact HB.out))) : w.heap.size ≤ gb101)); clear HB; have HB := n0_; have BK101 := n1_; have GW101 := n2_; have GE101 := n3_; clear n0_ n1_ n2_ n3_; clear hb hbox hg) | ((with_reducible refine gate_dst (N := 2) rfl ?_); refine box_event ?hg (N := 2) ?hd (cs := #[.int .i64 0, .slice none 0 0, .slice none 0 0]) (t := 25) ?hr ?_; (case hd => rfl); (case hg => rfl); (case hr => first | (go_simp; done) | (go_simp; rfl)); intro gb102 hg w5 hbox hb; have n0_ := Q0.mk (bb (g := gb101) (o := .cells #[.int .i64 a0_0, .slice A0_1 l0_1.length c0_1, .slice A0_2 l0_2.length c0_2] 25 (0, 0)) (by (with_reducible repeat (first | refine bN ?_ _ | refine bdz ?_ | refine bA ?_ _)); exact BK101.out) hb); have n1_ := Q0.mk (bsz (by repeat (first | (with_reducible first | exact HB.out | apply ba | apply pN | apply bD | refine bS ?_ GE101.out) | exact HB.out)) hb); have n2_ := Q0.mk (hbox); have n3_ := Q0.mk ((by rw [hg]; exact (below_size (by repeat (first | (with_reducible first | exact HB.out | apply ba | apply pN | apply bD | refine bS ?_ GE101.out) | exact HB.out))) : w.heap.size ≤ gb102)); have n4_ := Q0.mk ((by rw [hg]; exact (below_size (by repeat (first | (with_reducible first | exact HB.out | apply ba | apply pN | apply bD | refine bS ?_ GE101.out) | exact HB.out))) : w.heap.size ≤ gb102)); have n5_ := Q0.mk ((by rw [hg]; exact Nat.ne_of_lt (blk_lt (g := gb101) (o := .cells #[.int .i64 a0_0, .slice A0_1 l0_1.length c0_1, .slice A0_2 l0_2.length c0_2] 25 (0, 0)) (by (with_reducible repeat (first | refine bN ?_ _ | refine bdz ?_ | refine bA ?_ _)); exact BK101.out)) : gb101 ≠ gb102)); have n6_ := Q0.mk ((by rw [hg]; exact Nat.ne_of_gt (blk_lt (g := gb101) (o := .cells #[.int .i64 a0_0, .slice A0_1 l0_1.length c0_1, .slice A0_2 l0_2.length c0_2] 25 (0, 0)) (by (with_reducible repeat (first | refine bN ?_ _ | refine bdz ?_ | refine bA ?_ _)); exact BK101.out)) : gb102 ≠ gb101)); clear BK101; clear HB; have BK101 := n0_; have HB := n1_; have BK102 := n2_; have GW102 := n3_; have GE102 := n4_; have NB101_102 := n5_; have NB102_101 := n6_; clear n0_ n1_ n2_ n3_ n4_ n5_ n6_; clear hb hbox hg; have hnb6 := NB101_102.out; have hnc6 := NB102_101.out; have hcz7_0 : w5.cell? ⟨gb101, 0, none⟩ = some (.int .i64 a0_0) := (bcz BK101.out 0).trans rfl; have hcz7_1 : w5.cell? ⟨gb101, 1, none⟩ = some (.slice A0_1 l0_1.length c0_1) := (bcz BK101.out 1).trans rfl; have hcz7_2 : w5.cell? ⟨gb101, 2, none⟩ = some (.slice A0_2 l0_2.length c0_2) := (bcz BK101.out 2).trans rfl; have hfz7_0 := bf BK101.out 0; have hfz7_1 := bf BK101.out 1; have hfz7_2 := bf BK101.out 2) | ((with_reducible refine gate_callee (f := 36) rfl ?_); refine goesL_ (some 8) rfl rfl Try.func36 (by kernel_rfl) rfl #[.agg #[.int .i64 a0_0, .slice A0_1 l0_1.length c0_1, .slice A0_2 l0_2.length c0_2]] rfl (by (try simp only [List.map_toArray, List.map_cons, List.map_nil]); first | done | rfl | (simp only [List.length_drop, List.length_take]; rfl)) ?_; (with_reducible refine (thompson_Good.calls a0_0 _ _ l0_1 _ _ l0_2 true _ ?side1 ?side2 ?side3 ?side4 A2.out).mono ?_); (case side1 => repeat (first | exact (Kd.C_below HR0_1.out HB.out) | (with_reducible refine Kd.C_alloc ?_ _) | (with_reducible refine Kd.C_drewN ?_ _) | (with_reducible refine Kd.C_drew ?_))); (case side2 => exact HC0_1.out); (case side3 => repeat (first | exact (Kd.C_below HR0_2.out HB.out) | (with_reducible refine Kd.C_alloc ?_ _) | (with_reducible refine Kd.C_drewN ?_ _) | (with_reducible refine Kd.C_drew ?_))); (case side4 => exact HC0_2.out); rintro e w8 ⟨rfl, hb⟩; refine ⟨_, rfl, ?_⟩; have n0_ := Q0.mk (bb (g := gb101) (o := .cells #[.int .i64 a0_0, .slice A0_1 l0_1.length c0_1, .slice A0_2 l0_2.length c0_2] 25 (0, 0)) (by (with_reducible repeat (first | refine bN ?_ _ | refine bdz ?_ | refine bA ?_ _)); exact BK101.out) hb); have n1_ := Q0.mk (bb (g := gb102) (o := .cells #[.int .i64 0, .slice none 0 0, .slice none 0 0] 25 (0, 0)) (by (with_reducible repeat (first | refine bN ?_ _ | refine bdz ?_ | refine bA ?_ _)); exact BK102.out) hb); have n2_ := Q0.mk (bsz (by repeat (first | (with_reducible first | exact HB.out | apply ba | apply pN | apply bD | refine bS ?_ GE101.out | refine bS ?_ GE102.out) | exact HB.out)) hb); clear BK101; clear BK102; clear HB; have BK101 := n0_; have BK102 := n1_; have HB := n2_; clear n0_ n1_ n2_; (try clear hb); (try clear hb2); (try clear hk); (try clear hi); have hcz9_0 : w8.cell? ⟨gb101, 0, none⟩ = some (.int .i64 a0_0) := (bcz BK101.out 0).trans rfl; have hcz9_1 : w8.cell? ⟨gb101, 1, none⟩ = some (.slice A0_1 l0_1.length c0_1) := (bcz BK101.out 1).trans rfl; have hcz9_2 : w8.cell? ⟨gb101, 2, none⟩ = some (.slice A0_2 l0_2.length c0_2) := (bcz BK101.out 2).trans rfl; have hfz9_0 := bf BK101.out 0; have hfz9_1 := bf BK101.out 1; have hfz9_2 := bf BK101.out 2) | ((with_reducible refine gate_dst (N := 4) rfl ?_); refine box_event ?hg (N := 4) ?hd (cs := #[.int .i64 0, .slice none 0 0, .slice none 0 0]) (t := 25) ?hr ?_; (case hd => rfl); (case hg => rfl); (case hr => first | (go_simp; done) | (go_simp; rfl)); intro gb104 hg w10 hbox hb; have n0_ := Q0.mk (bb (g := gb101) (o := .cells #[.int .i64 a0_0, .slice A0_1 l0_1.length c0_1, .slice A0_2 l0_2.length c0_2] 25 (0, 0)) (by (with_reducible repeat (first | refine bN ?_ _ | refine bdz ?_ | refine bA ?_ _)); exact BK101.out) hb); have n1_ := Q0.mk (bb (g := gb102) (o := .cells #[.int .i64 0, .slice none 0 0, .slice none 0 0] 25 (0, 0)) (by (with_reducible repeat (first | refine bN ?_ _ | refine bdz ?_ | refine bA ?_ _)); exact BK102.out) hb); have n2_ := Q0.mk (bsz (by repeat (first | (with_reducible first | exact HB.out | apply ba | apply pN | apply bD | refine bS ?_ GE101.out | refine bS ?_ GE102.out) | exact HB.out)) hb); have n3_ := Q0.mk (hbox); have n4_ := Q0.mk ((by rw [hg]; exact (below_size (by repeat (first | (with_reducible first | exact HB.out | apply ba | apply pN | apply bD | refine bS ?_ GE101.out | refine bS ?_ GE102.out) | exact HB.out))) : w.heap.size ≤ gb104)); have n5_ := Q0.mk ((by rw [hg]; exact (below_size (by repeat (first | (with_reducible first | exact HB.out | apply ba | apply pN | apply bD | refine bS ?_ GE101.out | refine bS ?_ GE102.out) | exact HB.out))) : w.heap.size ≤ gb104)); have n6_ := Q0.mk ((by rw [hg]; exact Nat.ne_of_lt (blk_lt (g := gb101) (o := .cells #[.int .i64 a0_0, .slice A0_1 l0_1.length c0_1, .slice A0_2 l0_2.length c0_2] 25 (0, 0)) (by (with_reducible repeat (first | refine bN ?_ _ | refine bdz ?_ | refine bA ?_ _)); exact BK101.out)) : gb101 ≠ gb104)); have n7_ := Q0.mk ((by rw [hg]; exact Nat.ne_of_gt (blk_lt (g := gb101) (o := .cells #[.int .i64 a0_0, .slice A0_1 l0_1.length c0_1, .slice A0_2 l0_2.length c0_2] 25 (0, 0)) (by (with_reducible repeat (first | refine bN ?_ _ | refine bdz ?_ | refine bA ?_ _)); exact BK101.out)) : gb104 ≠ gb101)); have n8_ := Q0.mk ((by rw [hg]; exact Nat.ne_of_lt (blk_lt (g := gb102) (o := .cells #[.int .i64 0, .slice none 0 0, .slice none 0 0] 25 (0, 0)) (by (with_reducible repeat (first | refine bN ?_ _ | refine bdz ?_ | refine bA ?_ _)); exact BK102.out)) : gb102 ≠ gb104)); have n9_ := Q0.mk ((by rw [hg]; exact Nat.ne_of_gt (blk_lt (g := gb102) (o := .cells #[.int .i64 0, .slice none 0 0, .slice none 0 0] 25 (0, 0)) (by (with_reducible repeat (first | refine bN ?_ _ | refine bdz ?_ | refine bA ?_ _)); exact BK102.out)) : gb104 ≠ gb102)); clear BK101; clear BK102; clear HB; have BK101 := n0_; have BK102 := n1_; have HB := n2_; have BK104 := n3_; have GW104 := n4_; have GE104 := n5_; have NB101_104 := n6_; have NB104_101 := n7_; have NB102_104 := n8_; have NB104_102 := n9_; clear n0_ n1_ n2_ n3_ n4_ n5_ n6_ n7_ n8_ n9_; clear hb hbox hg; have hnb11 := NB104_101.out; have hnc11 := NB101_104.out; have hnb12 := NB104_102.out; have hnc12 := NB102_104.out; have hcz13_0 : w10.cell? ⟨gb104, 0, none⟩ = some (.int .i64 0) := (bcz BK104.out 0).trans rfl; have hcz13_1 : w10.cell? ⟨gb104, 1, none⟩ = some (.slice none 0 0) := (bcz BK104.out 1).trans rfl; have hcz13_2 : w10.cell? ⟨gb104, 2, none⟩ = some (.slice none 0 0) := (bcz BK104.out 2).trans rfl; have hfz13_0 := bf BK104.out 0; have hfz13_1 := bf BK104.out 1; have hfz13_2 := bf BK104.out 2; have hcz14_0 : w10.cell? ⟨gb101, 0, none⟩ = some (.int .i64 a0_0) := (bcz BK101.out 0).trans rfl; have hcz14_1 : w10.cell? ⟨gb101, 1, none⟩ = some (.slice A0_1 l0_1.length c0_1) := (bcz BK101.out 1).trans rfl; have hcz14_2 : w10.cell? ⟨gb101, 2, none⟩ = some (.slice A0_2 l0_2.length c0_2) := (bcz BK101.out 2).trans rfl; have hfz14_0 := bf BK101.out 0; have hfz14_1 := bf BK101.out 1; have hfz14_2 := bf BK101.out 2))
  go_loopg [17] k (fun kq v17 w' => ∃ (x17_1 : Int) (x105001_1 : List (List Int)) (x105002_1 : List Bool) (u105001 : Value) (u105002 : Value), v17 = .int .i64 x17_1 ∧ Q0 (product_Not.l0 kq l0_1 (l0_1.length : Int) x17_1 a0_0 l0_1 l0_2 a0_0 x105001_1 x105002_1 = some (r1, r2, r3, r4)) ∧ Q0 (kq ≤ k) ∧ Q0 (Kd.S (Kd.slice 3 (Kd.int .i64)) 45 w' w.heap.size (fun _ => True) u105001 x105001_1) ∧ Q0 (Kd.R Kd.bool 4 w' w.heap.size (fun _ => True) u105002 x105002_1) ∧ Q0 (w'.heap[gb101]? = some (.cells #[.int .i64 a0_0, (.slice A0_1 l0_1.length c0_1), (.slice A0_2 l0_2.length c0_2)] 25 (0, 0))) ∧ Q0 (w'.heap[gb102]? = some (.cells #[.int .i64 0, (.slice none 0 0), (.slice none 0 0)] 25 (0, 0))) ∧ Q0 (w'.heap[gb104]? = some (.cells #[.int .i64 a0_0, u105001, u105002] 25 (0, 0))) ∧ Q0 (Below w.heap.size w w'))
  case atStart => exact ⟨(0), (([] : List (List Int))), (([] : List Bool)), (.slice none 0 0), (.slice none 0 0), (by first | rfl | (simp; done) | (simp [*]; done)), H', ⟨Nat.le_refl _⟩, ⟨by first | exact Kd.S_nil _ _ _ _ _ | exact Kd.N_nil _ _ _ _ _ | exact Kd.V_nil _ _ _ _ _ | exact Kd.Q_nil _ _ _ _ _ | exact Kd.R_nil _ _ _ _ _⟩, ⟨by first | exact Kd.R_nil _ _ _ _ _ | exact Kd.N_nil _ _ _ _ _ | exact Kd.V_nil _ _ _ _ _ | exact Kd.Q_nil _ _ _ _ _ | exact Kd.S_nil _ _ _ _ _⟩, ⟨by (with_reducible repeat (first | refine bN ?_ _ | refine bdz ?_ | refine bA ?_ _)); refine bF ?_ NB101_104.out _; (with_reducible repeat (first | refine bN ?_ _ | refine bdz ?_ | refine bA ?_ _)); refine bF ?_ NB101_104.out _; (with_reducible repeat (first | refine bN ?_ _ | refine bdz ?_ | refine bA ?_ _)); refine bF ?_ NB101_104.out _; (with_reducible repeat (first | refine bN ?_ _ | refine bdz ?_ | refine bA ?_ _)); exact BK101.out⟩, ⟨by (with_reducible repeat (first | refine bN ?_ _ | refine bdz ?_ | refine bA ?_ _)); refine bF ?_ NB102_104.out _; (with_reducible repeat (first | refine bN ?_ _ | refine bdz ?_ | refine bA ?_ _)); refine bF ?_ NB102_104.out _; (with_reducible repeat (first | refine bN ?_ _ | refine bdz ?_ | refine bA ?_ _)); refine bF ?_ NB102_104.out _; (with_reducible repeat (first | refine bN ?_ _ | refine bdz ?_ | refine bA ?_ _)); exact BK102.out⟩, ⟨by (with_reducible repeat (first | refine bN ?_ _ | refine bdz ?_ | refine bA ?_ _)); refine bp (cs := #[.int .i64 a0_0, .slice none 0 0, .slice none 0 0]) ?_ 2 _ rfl; (with_reducible repeat (first | refine bN ?_ _ | refine bdz ?_ | refine bA ?_ _)); refine bp (cs := #[.int .i64 a0_0, .slice none 0 0, .slice none 0 0]) ?_ 1 _ rfl; (with_reducible repeat (first | refine bN ?_ _ | refine bdz ?_ | refine bA ?_ _)); refine bp (cs := #[.int .i64 0, .slice none 0 0, .slice none 0 0]) ?_ 0 _ rfl; (with_reducible repeat (first | refine bN ?_ _ | refine bdz ?_ | refine bA ?_ _)); exact BK104.out⟩, ⟨by repeat (first | (with_reducible first | exact HB.out | apply ba | apply pN | apply bD | refine bS ?_ GE101.out | refine bS ?_ GE102.out | refine bS ?_ GE104.out) | exact HB.out)⟩⟩
  case round =>
   clear H'
   try clear c1
   try clear p2
   try clear c3
   try clear c6
   try clear c7
   try clear c11
   try clear c12
   try clear hcz13_0
   try clear hcz13_1
   try clear hcz13_2
   try clear hcz14_0
   try clear hcz14_1
   try clear hcz14_2
   try clear hcz7_0
   try clear hcz7_1
   try clear hcz7_2
   try clear hcz9_0
   try clear hcz9_1
   try clear hcz9_2
   try clear hfz13_0
   try clear hfz13_1
   try clear hfz13_2
   try clear hfz14_0
   try clear hfz14_1
   try clear hfz14_2
   try clear hfz7_0
   try clear hfz7_1
   try clear hfz7_2
   try clear hfz9_0
   try clear hfz9_1
   try clear hfz9_2
   obtain ⟨x17_1, x105001_1, x105002_1, u105001, u105002, rfl, HA, HK1, HO_105001, HO_105002, BK101, BK102, BK104, HB⟩ := hrel
   cases gk with
   | zero => exact absurd HA.out (by simp [product_Not.l0])
   | succ k1 =>
    have H := HA.out
    clear HA
    simp only [product_Not.l0] at H
    by_cases c15 : x17_1 < (l0_1.length : Int)
    ·rw [if_pos c15] at H
     have c15b0 : decide (x17_1 < (l0_1.length : Int)) = true := decide_eq_true c15
     clear c15
     by_cases c16 : 0 ≤ x17_1
     ·rw [if_pos c16] at H
      have c16b0 : decide (0 ≤ x17_1) = true := decide_eq_true c16
      clear c16
      by_cases c17 : x17_1 < (l0_1.length : Int)
      ·rw [if_pos c17] at H
       have c17b0 : decide (x17_1 < (l0_1.length : Int)) = true := decide_eq_true c17
       clear c17
       obtain ⟨y106, hy106⟩ : ∃ y_ : List Int, y_ = (([] : List Int)) := ⟨_, rfl⟩
       replace H : (if y106.length + (rd_L5 l0_1 x17_1).length < 17592186044416 then (if x105001_1.length < 5864062014805 then (if x17_1 < (l0_2.length : Int) then (if x105002_1.length < 140737488355328 then (product_Not.l0 k1 l0_1 (l0_1.length : Int) (wrap64 (x17_1 + 1)) a0_0 l0_1 l0_2 a0_0 (x105001_1 ++ [(y106 ++ (rd_L5 l0_1 x17_1))]) (x105002_1 ++ [!(rdOf false l0_2 x17_1)])) else (none)) else (none)) else (none)) else (none)) = some (r1, r2, r3, r4) := by first | (rw [hy106]; with_reducible exact H) | (have H2_ := (Option.bind_some _ _).symm.trans H; rw [hy106]; with_reducible exact H2_) | (have H2_ := (Option.bind_some _ _).symm.trans H; with_reducible exact H2_) | with_reducible exact H | (rw [hy106]; exact H) | exact H
       have Ny106 := Q0.mk hy106
       clear hy106
       by_cases c18 : y106.length + (rd_L5 l0_1 x17_1).length < 17592186044416
       ·rw [if_pos c18] at H
        have LMc18 := Q0.mk c18
        clear c18
        obtain ⟨y109, hy109⟩ : ∃ y_ : List Int, y_ = (y106 ++ (rd_L5 l0_1 x17_1)) := ⟨_, rfl⟩
        replace H : (if x105001_1.length < 5864062014805 then (if x17_1 < (l0_2.length : Int) then (if x105002_1.length < 140737488355328 then (product_Not.l0 k1 l0_1 (l0_1.length : Int) (wrap64 (x17_1 + 1)) a0_0 l0_1 l0_2 a0_0 (x105001_1 ++ [y109]) (x105002_1 ++ [!(rdOf false l0_2 x17_1)])) else (none)) else (none)) else (none)) = some (r1, r2, r3, r4) := by first | (rw [hy109]; with_reducible exact H) | (have H2_ := (Option.bind_some _ _).symm.trans H; rw [hy109]; with_reducible exact H2_) | (have H2_ := (Option.bind_some _ _).symm.trans H; with_reducible exact H2_) | with_reducible exact H | (rw [hy109]; exact H) | exact H
        have Ny109 := Q0.mk hy109
        clear hy109
        by_cases c19 : x105001_1.length < 5864062014805
        ·rw [if_pos c19] at H
         have LMc19 := Q0.mk c19
         clear c19
         obtain ⟨y112, hy112⟩ : ∃ y_ : List (List Int), y_ = (x105001_1 ++ [y109]) := ⟨_, rfl⟩
         replace H : (if x17_1 < (l0_2.length : Int) then (if x105002_1.length < 140737488355328 then (product_Not.l0 k1 l0_1 (l0_1.length : Int) (wrap64 (x17_1 + 1)) a0_0 l0_1 l0_2 a0_0 y112 (x105002_1 ++ [!(rdOf false l0_2 x17_1)])) else (none)) else (none)) = some (r1, r2, r3, r4) := by first | (rw [hy112]; with_reducible exact H) | (have H2_ := (Option.bind_some _ _).symm.trans H; rw [hy112]; with_reducible exact H2_) | (have H2_ := (Option.bind_some _ _).symm.trans H; with_reducible exact H2_) | with_reducible exact H | (rw [hy112]; exact H) | exact H
         have Ny112 := Q0.mk hy112
         clear hy112
         by_cases c20 : x17_1 < (l0_2.length : Int)
         ·rw [if_pos c20] at H
          have c20b0 : decide (x17_1 < (l0_2.length : Int)) = true := decide_eq_true c20
          clear c20
          by_cases c21 : x105002_1.length < 140737488355328
          ·rw [if_pos c21] at H
           have LMc21 := Q0.mk c21
           clear c21
           obtain ⟨y116, hy116⟩ : ∃ y_ : List Bool, y_ = (x105002_1 ++ [!(rdOf false l0_2 x17_1)]) := ⟨_, rfl⟩
           replace H : (product_Not.l0 k1 l0_1 (l0_1.length : Int) (wrap64 (x17_1 + 1)) a0_0 l0_1 l0_2 a0_0 y112 y116) = some (r1, r2, r3, r4) := by first | (rw [hy116]; with_reducible exact H) | (have H2_ := (Option.bind_some _ _).symm.trans H; rw [hy116]; with_reducible exact H2_) | (have H2_ := (Option.bind_some _ _).symm.trans H; with_reducible exact H2_) | with_reducible exact H | (rw [hy116]; exact H) | exact H
           have Ny116 := Q0.mk hy116
           clear hy116
           have H' := Q0.mk H
           clear H
           have p105 : 0 ≤ (x17_1 : Int) := of_decide_eq_true (by first | (with_reducible assumption) | assumption)
           have q105 : x17_1 < (l0_1.length : Int) := of_decide_eq_true (by first | (with_reducible assumption) | assumption)
           obtain ⟨ad105, A105_0, c105_0, e105, hx105_0, hl105_0, hi105_0⟩ := at_L5 HR0_1.out x17_1 p105 q105
           cases e105
           replace hx105_0 := (HB.out.cell (World.block_lt_of_cell? w _ hx105_0)).trans hx105_0
           have HR105_0 := Q0.mk hi105_0
           have HC105_0 := Q0.mk hl105_0
           clear hi105_0 hl105_0
           replace p105 := eq_true p105
           replace q105 := eq_true q105
           try go_wp2
           have n0_ := Q0.mk (Kd.S_drew HO_105001.out)
           have n1_ := Q0.mk (Kd.R_drew HO_105002.out)
           have n2_ := Q0.mk (bdz BK101.out)
           have n3_ := Q0.mk (bdz BK102.out)
           have n4_ := Q0.mk (bdz BK104.out)
           have n5_ := Q0.mk (bD HB.out)
           clear HO_105001
           clear HO_105002
           clear BK101
           clear BK102
           clear BK104
           clear HB
           have HO_105001 := n0_
           have HO_105002 := n1_
           have BK101 := n2_
           have BK102 := n3_
           have BK104 := n4_
           have HB := n5_
           clear n0_ n1_ n2_ n3_ n4_ n5_
           refine start_ (n := 9) (S := fun w' => w'.cell? ⟨gb104, 0, none⟩ = some (.int .i64 a0_0) ∧ w'.cell? ⟨gb104, 1, none⟩ = some (u105001) ∧ w'.cell? ⟨gb104, 2, none⟩ = some (u105002)) (ds := [8]) #[false, false, false, false, false, false, false, false, false] (by kernel_rfl) rfl rfl ⟨(bcz BK104.out 0).trans rfl, (bcz BK104.out 1).trans rfl, (bcz BK104.out 2).trans rfl⟩ (fun hHeld => ?_); refine with_tabW product_Not.tab7 product_Not.bits7 (fun HT_ HW_ => ?_)
           generalize wr.drew = w22 at HO_105001 HO_105002 BK101 BK102 BK104 HB hHeld ⊢
           refine pure_ (i := 0) (N := some 22) (v := ?_) (a' := ?_) #[true, false, false, false, false, false, false, false, false] rfl rfl (any_of HT_.out (by kernel_rfl)) (fun _ _ _ h => h) (Or.inl ⟨by rfl, ?_⟩) ?_ ?_
           rotate_left
           ·intro w'
            go_simp
            with_reducible rfl
           rotate_left
           ·simp only [Act.put, sA, sB, sC, i64_w, i32_w]
            rfl
           refine pure_ (i := 3) (N := some 25) (v := ?_) (a' := ?_) #[true, false, false, true, false, false, false, false, false] rfl rfl (any_of HT_.out (by kernel_rfl)) (fun _ _ _ h => h) (Or.inl ⟨by rfl, ?_⟩) ?_ ?_
           rotate_left
           ·intro w'
            go_simp
            with_reducible rfl
           rotate_left
           ·simp only [Act.put, sA, sB, sC, i64_w, i32_w]
            rfl
           refine take_ (i := 1) (N := some 23) (v := ?_) (a' := ?_) #[true, true, false, true, false, false, false, false, false] rfl rfl (take_ofW HT_.out HW_.out (by kernel_rfl)) (fun _ _ _ h => h) (Or.inl ⟨by rfl, ?_⟩) hHeld ?_ ?_
           rotate_left
           ·rintro w' ⟨s0, s1, s2⟩
            go_simp
            with_reducible rfl
           rotate_left
           ·simp only [Act.put, sA, sB, sC, i64_w, i32_w]
            rfl
           refine one_ (i := 2) (N := some 24) #[true, true, true, true, false, false, false, false, false] rfl rfl (one_of HT_.out (by kernel_rfl)) (by decide) (fun K hK => ?_)
           refine Kd.R_lit_step (Kd.int .i64) _ 3 ?hg (N := 24) ?hd (xs := ([] : List Int)) (inner := []) (ok := fun _ => True) (okp := fun _ => True) ?hr ?hp (fun _ hk => hk) trivial (Below.refl _ _) (Nat.le_refl _) (by simp) ?_; (case hd => rfl); (case hg => rfl); (case hr => first | (go_simp; done) | (go_simp; rfl)); (case hp => exact (Reps.none _ _))
           intro v107 w23 ho24 hb hg_ hnew_
           clear hg_ hnew_
           (first | rw [← Ny106.out] at ho24 | (simp only [Int.reduceToNat] at ho24; rw [← Ny106.out] at ho24))
           have n0_ := Q0.mk (Kd.S_elder' (by (with_reducible repeat (first | apply Kd.S_alloc | apply Kd.S_drewN | apply Kd.S_drew)); exact HO_105001.out) (Kd.R_base ho24) hb)
           have n1_ := Q0.mk (Kd.R_below (by (with_reducible repeat (first | apply Kd.R_alloc | apply Kd.R_drewN | apply Kd.R_drew)); exact HO_105002.out) hb)
           have n2_ := Q0.mk (Kd.R_lower ho24 (below_size (by repeat (first | (with_reducible first | exact HB.out | apply ba | apply pN | apply bD | refine bS ?_ GE101.out | refine bS ?_ GE102.out | refine bS ?_ GE104.out) | exact HB.out))))
           have n3_ := Q0.mk (bb (g := gb101) (o := .cells #[.int .i64 a0_0, .slice (some ad105) l0_1.length c0_1, .slice A0_2 l0_2.length c0_2] 25 (0, 0)) (by (with_reducible repeat (first | refine bN ?_ _ | refine bdz ?_ | refine bA ?_ _)); exact BK101.out) hb)
           have n4_ := Q0.mk (bb (g := gb102) (o := .cells #[.int .i64 0, .slice none 0 0, .slice none 0 0] 25 (0, 0)) (by (with_reducible repeat (first | refine bN ?_ _ | refine bdz ?_ | refine bA ?_ _)); exact BK102.out) hb)
           have n5_ := Q0.mk (bb (g := gb104) (o := .cells #[.int .i64 a0_0, u105001, u105002] 25 (0, 0)) (by (with_reducible repeat (first | refine bN ?_ _ | refine bdz ?_ | refine bA ?_ _)); exact BK104.out) hb)
           have n6_ := Q0.mk (bsz (by repeat (first | (with_reducible first | exact HB.out | apply ba | apply pN | apply bD | refine bS ?_ GE101.out | refine bS ?_ GE102.out | refine bS ?_ GE104.out) | exact HB.out)) hb)
           clear HO_105001
           clear HO_105002
           clear BK101
           clear BK102
           clear BK104
           clear HB
           have HO_105001 := n0_
           have HO_105002 := n1_
           have HO108 := n2_
           have BK101 := n3_
           have BK102 := n4_
           have BK104 := n5_
           have HB := n6_
           clear n0_ n1_ n2_ n3_ n4_ n5_ n6_
           clear hb ho24
           refine hK.out _ _ ⟨(bcz BK104.out 0).trans rfl, (bcz BK104.out 1).trans rfl, (bcz BK104.out 2).trans rfl⟩ (fun hHeld => ?_)
           clear hK K
           refine norm_ (a' := ?_) ?_ ?_
           rotate_left
           ·show Act.put _ (some 24) _ = _
            simp only [Act.put, sA, sB, sC, i64_w, i32_w]
            rfl
           refine one_ (i := 4) (N := some 26) #[true, true, true, true, true, false, false, false, false] rfl rfl (one_of HT_.out (by kernel_rfl)) (by decide) (fun K hK => ?_)
           refine Kd.R_append_rows_step (Kd.int .i64) (w0 := w) w.heap.size (by rfl) (.tmp 24) (.tmp 25) 45 3 (.int .i64 0) 8 rfl Try.underlying45 info3 rfl (by decide) (by omega) v107 y106 (rd_L5 l0_1 x17_1) _ _ _ (fun _ => True) (fun _ => False) rfl rfl ?aO ?aR (fun _ _ h => h) (fun _ h => h.elim) ?aF ?aB ?aS ?aL ?_
           (case aR => repeat (first | exact (Kd.C_below HR105_0.out HB.out) | (with_reducible refine Kd.C_alloc ?_ _) | (with_reducible refine Kd.C_drewN ?_ _) | (with_reducible refine Kd.C_drew ?_)))
           (case aB => exact (by repeat (first | (with_reducible first | exact HB.out | apply ba | apply pN | apply bD | refine bS ?_ GE101.out | refine bS ?_ GE102.out | refine bS ?_ GE104.out) | exact HB.out)))
           (case aF => exact (fun _ _ => trivial))
           (case aO => exact (by (with_reducible repeat (first | apply Kd.R_alloc | apply Kd.R_drewN | apply Kd.R_drew)); exact HO108.out))
           (case aS => exact (below_size (by repeat (first | (with_reducible first | exact HB.out | apply ba | apply pN | apply bD | refine bS ?_ GE101.out | refine bS ?_ GE102.out | refine bS ?_ GE104.out) | exact HB.out))))
           (case aL => have := LMc18.out; omega)
           intro v110 w25 ho hb hg hat
           rw [← Ny109.out] at ho
           have n0_ := Q0.mk (Kd.S_after (ok := (fun _ => True)) (by (with_reducible repeat (first | apply Kd.S_alloc | apply Kd.S_drewN | apply Kd.S_drew)); exact HO_105001.out) hg hat)
           have n1_ := Q0.mk (Kd.R_over' (by (with_reducible repeat (first | apply Kd.R_alloc | apply Kd.R_drewN | apply Kd.R_drew)); exact HO_105002.out) (Kd.R_typed (by (with_reducible repeat (first | apply Kd.R_alloc | apply Kd.R_drewN | apply Kd.R_drew)); exact HO108.out)) (by decide) hg)
           have n2_ := Q0.mk (bG (g := gb101) (o := .cells #[.int .i64 a0_0, .slice (some ad105) l0_1.length c0_1, .slice A0_2 l0_2.length c0_2] 25 (0, 0)) (by (with_reducible repeat (first | refine bN ?_ _ | refine bdz ?_ | refine bA ?_ _)); exact BK101.out) hg (Kd.R_ne HO108.out BK101.out (by decide)))
           have n3_ := Q0.mk (bG (g := gb102) (o := .cells #[.int .i64 0, .slice none 0 0, .slice none 0 0] 25 (0, 0)) (by (with_reducible repeat (first | refine bN ?_ _ | refine bdz ?_ | refine bA ?_ _)); exact BK102.out) hg (Kd.R_ne HO108.out BK102.out (by decide)))
           have n4_ := Q0.mk (bG (g := gb104) (o := .cells #[.int .i64 a0_0, u105001, u105002] 25 (0, 0)) (by (with_reducible repeat (first | refine bN ?_ _ | refine bdz ?_ | refine bA ?_ _)); exact BK104.out) hg (Kd.R_ne HO108.out BK104.out (by decide)))
           have n5_ := Q0.mk (hb)
           have n6_ := Q0.mk (ho)
           clear HO_105001
           clear HO_105002
           clear BK101
           clear BK102
           clear BK104
           clear HB
           clear HO108
           have HO_105001 := n0_
           have HO_105002 := n1_
           have BK101 := n2_
           have BK102 := n3_
           have BK104 := n4_
           have HB := n5_
           have HO111 := n6_
           clear n0_ n1_ n2_ n3_ n4_ n5_ n6_
           clear ho hb hg hat
           obtain ⟨Ao27, co27, eo27⟩ := Kd.R_slice HO111.out
           (first | subst eo27 | (injection eo27 with f1_ f2_ f3_; have f4_ := f1_.symm; have f5_ := f3_.symm; clear f1_ f2_ f3_; subst f4_; subst f5_))
           refine hK.out _ _ ⟨(bcz BK104.out 0).trans rfl, (bcz BK104.out 1).trans rfl, (bcz BK104.out 2).trans rfl⟩ (fun hHeld => ?_)
           clear hK K
           refine norm_ (a' := ?_) ?_ ?_
           rotate_left
           ·show Act.put _ (some 26) _ = _
            simp only [Act.put, sA, sB, sC, i64_w, i32_w]
            rfl
           refine one_ (i := 5) (N := some 27) #[true, true, true, true, true, true, false, false, false] rfl rfl (one_of HT_.out (by kernel_rfl)) (by decide) (fun K hK => ?_)
           refine value_ (w1 := ?_) (v := ?_) (by rfl) rfl ?_ ?_
           rotate_left 2
           ·go_simp
            constructor
            ·rfl
            ·rfl
           refine hK.out _ _ ⟨(bcz (bA BK104.out _) 0).trans rfl, (bcz (bA BK104.out _) 1).trans rfl, (bcz (bA BK104.out _) 2).trans rfl⟩ (fun hHeld => ?_)
           clear hK K
           refine norm_ (a' := ?_) ?_ ?_
           rotate_left
           ·show Act.put _ (some 27) _ = _
            simp only [Act.put, sA, sB, sC, i64_w, i32_w]
            rfl
           refine one_ (i := 6) (N := some 28) #[true, true, true, true, true, true, true, false, false] rfl rfl (one_of HT_.out (by kernel_rfl)) (by decide) (fun K hK => ?_)
           refine Kd.S_append_step (Kd.slice 3 (Kd.int .i64)) (w0 := w) w.heap.size (by rfl) (.tmp 23) (.tmp 27) 22 45 (.slice none 0 0) 24 rfl Try.underlying22 info45 rfl (by decide) (by omega) u105001 x105001_1 y109 [.slice Ao27 y109.length co27] (fun _ => True) (fun k_ => some k_ = (.slice Ao27 y109.length co27 : Value).ownBlock) rfl rfl ?aP (fun k_ hk_ => ((Kd.R_mono (ok' := fun k_ => ((fun _ => True)) k_ ∧ some k_ ≠ (u105001 : Value).ownBlock) (Kd.R_apart' (HO111.out) (Kd.S_typed HO_105001.out) (by decide)) (fun k_ hk => ⟨trivial, hk.2⟩))).1 k_ hk_.symm) ?aF ?aO ?aB ?aS ?aL ?_
           (case aP => exact Kd.M_row (Kd.R_mono (Kd.R_tight rfl (Kd.R_mono (ok' := fun k_ => ((fun _ => True)) k_ ∧ some k_ ≠ (u105001 : Value).ownBlock) (Kd.R_apart' (HO111.out) (Kd.S_typed HO_105001.out) (by decide)) (fun k_ hk => ⟨trivial, hk.2⟩))) (fun _ h_ => h_)))
           (case aB => exact (by repeat (first | (with_reducible first | exact HB.out | apply ba | apply pN | apply bD | refine bS ?_ GE101.out | refine bS ?_ GE102.out | refine bS ?_ GE104.out) | exact HB.out)))
           (case aF => exact (fun _ _ => trivial))
           (case aO => exact (by (with_reducible repeat (first | apply Kd.S_alloc | apply Kd.S_drewN | apply Kd.S_drew)); exact Kd.S_mono HO_105001.out (fun k_ hk => ⟨trivial, fun e_ => hk.2 e_⟩)))
           (case aS => exact (below_size (by repeat (first | (with_reducible first | exact HB.out | apply ba | apply pN | apply bD | refine bS ?_ GE101.out | refine bS ?_ GE102.out | refine bS ?_ GE104.out) | exact HB.out))))
           (case aL => have := LMc19.out; omega)
           intro v113 w26 ho hb hg hat
           rw [← Ny112.out] at ho
           have n0_ := Q0.mk (Kd.R_over' (by (with_reducible repeat (first | apply Kd.R_alloc | apply Kd.R_drewN | apply Kd.R_drew)); exact HO_105002.out) (Kd.S_typed (by (with_reducible repeat (first | apply Kd.S_alloc | apply Kd.S_drewN | apply Kd.S_drew)); exact HO_105001.out)) (by decide) hg)
           have n1_ := Q0.mk (bG (g := gb101) (o := .cells #[.int .i64 a0_0, .slice (some ad105) l0_1.length c0_1, .slice A0_2 l0_2.length c0_2] 25 (0, 0)) (by (with_reducible repeat (first | refine bN ?_ _ | refine bdz ?_ | refine bA ?_ _)); exact BK101.out) hg (Kd.S_ne HO_105001.out BK101.out (by decide)))
           have n2_ := Q0.mk (bG (g := gb102) (o := .cells #[.int .i64 0, .slice none 0 0, .slice none 0 0] 25 (0, 0)) (by (with_reducible repeat (first | refine bN ?_ _ | refine bdz ?_ | refine bA ?_ _)); exact BK102.out) hg (Kd.S_ne HO_105001.out BK102.out (by decide)))
           have n3_ := Q0.mk (bG (g := gb104) (o := .cells #[.int .i64 a0_0, u105001, u105002] 25 (0, 0)) (by (with_reducible repeat (first | refine bN ?_ _ | refine bdz ?_ | refine bA ?_ _)); exact BK104.out) hg (Kd.S_ne HO_105001.out BK104.out (by decide)))
           have n4_ := Q0.mk (hb)
           have n5_ := Q0.mk (ho)
           clear HO_105002
           clear BK101
           clear BK102
           clear BK104
           clear HB
           clear HO_105001
           clear HO111
           have HO_105002 := n0_
           have BK101 := n1_
           have BK102 := n2_
           have BK104 := n3_
           have HB := n4_
           have HO114 := n5_
           clear n0_ n1_ n2_ n3_ n4_ n5_
           clear ho hb hg hat
           obtain ⟨Ao28, co28, eo28⟩ := Kd.S_slice HO114.out
           (first | subst eo28 | (injection eo28 with f1_ f2_ f3_; have f4_ := f1_.symm; have f5_ := f3_.symm; clear f1_ f2_ f3_; subst f4_; subst f5_))
           refine hK.out _ _ ⟨(bcz BK104.out 0).trans rfl, (bcz BK104.out 1).trans rfl, (bcz BK104.out 2).trans rfl⟩ (fun hHeld => ?_)
           clear hK K
           refine norm_ (a' := ?_) ?_ ?_
           rotate_left
           ·show Act.put _ (some 28) _ = _
            simp only [Act.put, sA, sB, sC, i64_w, i32_w]
            rfl
           refine pure_ (i := 7) (N := some 29) (v := ?_) (a' := ?_) #[true, true, true, true, true, true, true, true, false] rfl rfl (any_of HT_.out (by kernel_rfl)) (fun _ _ _ h => h) (Or.inl ⟨by rfl, ?_⟩) ?_ ?_
           rotate_left
           ·intro w'
            go_simp
            with_reducible rfl
           rotate_left
           ·simp only [Act.put, sA, sB, sC, i64_w, i32_w]
            rfl
           refine last_ (i := 8) (N := none) #[true, true, true, true, true, true, true, true, true] rfl rfl (one_of HT_.out (by kernel_rfl)) (by decide) (fun K hK => ?_)
           have hs29 : w26.cell? ⟨gb104, 1, none⟩ = some (u105001) := (bcz BK104.out 1).trans rfl
           have hfs29 := bf BK104.out 1
           have hns29_0 := NB101_104.out
           have hns29_1 := NB102_104.out
           have hms29_0 := NB104_101.out
           have hms29_1 := NB104_102.out
           refine skip_ (w1 := ?_) (by rfl) rfl ?_ ?_
           rotate_left
           ·go_simp
            rfl
           refine hK.out _ _ ?_
           clear hK K
           refine done_ (done_of HT_.out (by kernel_rfl)) ?_
           try go_wp2
           have n0_ : Q0 (Kd.R Kd.bool 4 (w26.setCell ⟨gb104, 1, none⟩ (.slice Ao28 y112.length co28)) w.heap.size (fun _ => True) u105002 x105002_1) := ⟨by (with_reducible repeat (first | apply Kd.R_alloc | apply Kd.R_drewN | apply Kd.R_drew)); exact Kd.R_mono (Kd.R_far (p := ⟨gb104, 1, none⟩) (Kd.R_types HO_105002.out BK104.out (by decide)) (fun _ hk => hk.2) (.slice Ao28 y112.length co28)) (fun _ hk => trivial)⟩
           have n1_ : Q0 (Kd.S (Kd.slice 3 (Kd.int .i64)) 45 (w26.setCell ⟨gb104, 1, none⟩ (.slice Ao28 y112.length co28)) w.heap.size (fun _ => True) (.slice Ao28 y112.length co28) y112) := ⟨by (with_reducible repeat (first | apply Kd.S_alloc | apply Kd.S_drewN | apply Kd.S_drew)); exact Kd.S_mono (Kd.S_far (p := ⟨gb104, 1, none⟩) (Kd.S_types HO114.out BK104.out (by decide)) (fun _ hk => hk.2) (.slice Ao28 y112.length co28)) (fun _ hk => trivial)⟩
           have n2_ : Q0 ((w26.setCell ⟨gb104, 1, none⟩ (.slice Ao28 y112.length co28)).heap[gb101]? = some (.cells #[.int .i64 a0_0, .slice (some ad105) l0_1.length c0_1, .slice A0_2 l0_2.length c0_2] 25 (0, 0))) := ⟨by (with_reducible repeat (first | refine bN ?_ _ | refine bdz ?_ | refine bA ?_ _)); refine bF ?_ NB101_104.out _; (with_reducible repeat (first | refine bN ?_ _ | refine bdz ?_ | refine bA ?_ _)); exact BK101.out⟩
           have n3_ : Q0 ((w26.setCell ⟨gb104, 1, none⟩ (.slice Ao28 y112.length co28)).heap[gb102]? = some (.cells #[.int .i64 0, .slice none 0 0, .slice none 0 0] 25 (0, 0))) := ⟨by (with_reducible repeat (first | refine bN ?_ _ | refine bdz ?_ | refine bA ?_ _)); refine bF ?_ NB102_104.out _; (with_reducible repeat (first | refine bN ?_ _ | refine bdz ?_ | refine bA ?_ _)); exact BK102.out⟩
           have n4_ : Q0 ((w26.setCell ⟨gb104, 1, none⟩ (.slice Ao28 y112.length co28)).heap[gb104]? = some (.cells #[.int .i64 a0_0, .slice Ao28 y112.length co28, u105002] 25 (0, 0))) := ⟨by (with_reducible repeat (first | refine bN ?_ _ | refine bdz ?_ | refine bA ?_ _)); refine bp (cs := #[.int .i64 a0_0, u105001, u105002]) ?_ 1 _ rfl; (with_reducible repeat (first | refine bN ?_ _ | refine bdz ?_ | refine bA ?_ _)); exact BK104.out⟩
           have n5_ : Q0 (Below w.heap.size w (w26.setCell ⟨gb104, 1, none⟩ (.slice Ao28 y112.length co28))) := ⟨by repeat (first | (with_reducible first | exact HB.out | apply ba | apply pN | apply bD | refine bS ?_ GE101.out | refine bS ?_ GE102.out | refine bS ?_ GE104.out) | exact HB.out)⟩
           (try clear HO_105002)
           (try clear HO114)
           (try clear BK101)
           (try clear BK102)
           (try clear BK104)
           (try clear HB)
           generalize (w26.setCell ⟨gb104, 1, none⟩ (.slice Ao28 y112.length co28)) = w30 at n0_ n1_ n2_ n3_ n4_ n5_ ⊢
           have HO_105002 := n0_
           have HO114 := n1_
           have BK101 := n2_
           have BK102 := n3_
           have BK104 := n4_
           have HB := n5_
           clear n0_ n1_ n2_ n3_ n4_ n5_
           have n0_ := Q0.mk (Kd.R_drew HO_105002.out)
           have n1_ := Q0.mk (Kd.S_drew HO114.out)
           have n2_ := Q0.mk (bdz BK101.out)
           have n3_ := Q0.mk (bdz BK102.out)
           have n4_ := Q0.mk (bdz BK104.out)
           have n5_ := Q0.mk (bD HB.out)
           clear HO_105002
           clear HO114
           clear BK101
           clear BK102
           clear BK104
           clear HB
           have HO_105002 := n0_
           have HO114 := n1_
           have BK101 := n2_
           have BK102 := n3_
           have BK104 := n4_
           have HB := n5_
           clear n0_ n1_ n2_ n3_ n4_ n5_
           have p115 : 0 ≤ (x17_1 : Int) := of_decide_eq_true (by first | (with_reducible assumption) | assumption)
           have q115 : x17_1 < (l0_2.length : Int) := of_decide_eq_true (by first | (with_reducible assumption) | assumption)
           obtain ⟨ad115, e115, hx115_0⟩ := Kd.at_bool HR0_2.out x17_1 p115 q115
           have hw115_0 := hx115_0
           cases e115
           replace hx115_0 := (HB.out.cell (World.block_lt_of_cell? w _ hx115_0)).trans hx115_0
           replace p115 := eq_true p115
           replace q115 := eq_true q115
           refine start_ (n := 12) (S := fun w' => w'.cell? ⟨gb104, 0, none⟩ = some (.int .i64 a0_0) ∧ w'.cell? ⟨gb104, 1, none⟩ = some (.slice Ao28 y112.length co28) ∧ w'.cell? ⟨gb104, 2, none⟩ = some (u105002) ∧ w'.cell? ⟨gb101, 0, none⟩ = some (.int .i64 a0_0) ∧ w'.cell? ⟨gb101, 1, none⟩ = some (.slice (some ad105) l0_1.length c0_1) ∧ w'.cell? ⟨gb101, 2, none⟩ = some (.slice (some ad115) l0_2.length c0_2) ∧ w'.cell? (ad115.add (x17_1).toNat) = some (.bool (rdOf false l0_2 x17_1))) (ds := [11]) #[false, false, false, false, false, false, false, false, false, false, false, false] (by kernel_rfl) rfl rfl ⟨(bcz BK104.out 0).trans rfl, (bcz BK104.out 1).trans rfl, (bcz BK104.out 2).trans rfl, (bcz BK101.out 0).trans rfl, (bcz BK101.out 1).trans rfl, (bcz BK101.out 2).trans rfl, ((HB.out.cell (World.block_lt_of_cell? w _ hw115_0)).trans hw115_0)⟩ (fun hHeld => ?_); refine with_tabW product_Not.tab8 product_Not.bits8 (fun HT_ HW_ => ?_)
           generalize w30.drew = w31 at HO_105002 HO114 BK101 BK102 BK104 HB hx115_0 hHeld ⊢
           refine pure_ (i := 0) (N := some 30) (v := ?_) (a' := ?_) #[true, false, false, false, false, false, false, false, false, false, false, false] rfl rfl (any_of HT_.out (by kernel_rfl)) (fun _ _ _ h => h) (Or.inl ⟨by rfl, ?_⟩) ?_ ?_
           rotate_left
           ·intro w'
            go_simp
            with_reducible rfl
           rotate_left
           ·simp only [Act.put, sA, sB, sC, i64_w, i32_w]
            rfl
           refine pure_ (i := 2) (N := some 32) (v := ?_) (a' := ?_) #[true, false, true, false, false, false, false, false, false, false, false, false] rfl rfl (any_of HT_.out (by kernel_rfl)) (fun _ _ _ h => h) (Or.inl ⟨by rfl, ?_⟩) ?_ ?_
           rotate_left
           ·intro w'
            go_simp
            with_reducible rfl
           rotate_left
           ·simp only [Act.put, sA, sB, sC, i64_w, i32_w]
            rfl
           refine pure_ (i := 4) (N := some 34) (v := ?_) (a' := ?_) #[true, false, true, false, true, false, false, false, false, false, false, false] rfl rfl (any_of HT_.out (by kernel_rfl)) (fun _ _ _ h => h) (Or.inl ⟨by rfl, ?_⟩) ?_ ?_
           rotate_left
           ·intro w'
            go_simp
            with_reducible rfl
           rotate_left
           ·simp only [Act.put, sA, sB, sC, i64_w, i32_w]
            rfl
           refine take_ (i := 1) (N := some 31) (v := ?_) (a' := ?_) #[true, true, true, false, true, false, false, false, false, false, false, false] rfl rfl (take_ofW HT_.out HW_.out (by kernel_rfl)) (fun _ _ _ h => h) (Or.inl ⟨by rfl, ?_⟩) hHeld ?_ ?_
           rotate_left
           ·rintro w' ⟨s0, s1, s2, s3, s4, s5, s6⟩
            go_simp
            with_reducible rfl
           rotate_left
           ·simp only [Act.put, sA, sB, sC, i64_w, i32_w]
            rfl
           refine take_ (i := 3) (N := some 33) (v := ?_) (a' := ?_) #[true, true, true, true, true, false, false, false, false, false, false, false] rfl rfl (take_ofW HT_.out HW_.out (by kernel_rfl)) (fun _ _ _ h => h) (Or.inl ⟨by rfl, ?_⟩) hHeld ?_ ?_
           rotate_left
           ·rintro w' ⟨s0, s1, s2, s3, s4, s5, s6⟩
            go_simp
            with_reducible rfl
           rotate_left
           ·simp only [Act.put, sA, sB, sC, i64_w, i32_w]
            rfl
           refine pure_ (i := 5) (N := some 35) (v := ?_) (a' := ?_) #[true, true, true, true, true, true, false, false, false, false, false, false] rfl rfl (any_of HT_.out (by kernel_rfl)) (fun _ _ _ h => h) (Or.inl ⟨by rfl, ?_⟩) ?_ ?_
           rotate_left
           ·intro w'
            go_simp
            with_reducible rfl
           rotate_left
           ·simp only [Act.put, sA, sB, sC, i64_w, i32_w]
            rfl
           refine take_ (i := 6) (N := some 36) (v := ?_) (a' := ?_) #[true, true, true, true, true, true, true, false, false, false, false, false] rfl rfl (take_ofW HT_.out HW_.out (by kernel_rfl)) (fun _ _ _ h => h) (Or.inl ⟨by rfl, ?_⟩) hHeld ?_ ?_
           rotate_left
           ·rintro w' ⟨s0, s1, s2, s3, s4, s5, s6⟩
            go_simp
            with_reducible rfl
           rotate_left
           ·simp only [Act.put, sA, sB, sC, i64_w, i32_w]
            rfl
           refine pure_ (i := 7) (N := some 37) (v := ?_) (a' := ?_) #[true, true, true, true, true, true, true, true, false, false, false, false] rfl rfl (any_of HT_.out (by kernel_rfl)) (fun _ _ _ h => h) (Or.inl ⟨by rfl, ?_⟩) ?_ ?_
           rotate_left
           ·intro w'
            go_simp
            with_reducible rfl
           rotate_left
           ·simp only [Act.put, sA, sB, sC, i64_w, i32_w]
            rfl
           refine one_ (i := 8) (N := some 38) #[true, true, true, true, true, true, true, true, true, false, false, false] rfl rfl (one_of HT_.out (by kernel_rfl)) (by decide) (fun K hK => ?_)
           refine value_ (w1 := ?_) (v := ?_) (by rfl) rfl ?_ ?_
           rotate_left 2
           ·go_simp
            constructor
            ·rfl
            ·rfl
           refine hK.out _ _ ⟨(bcz (bA BK104.out _) 0).trans rfl, (bcz (bA BK104.out _) 1).trans rfl, (bcz (bA BK104.out _) 2).trans rfl, (bcz (bA BK101.out _) 0).trans rfl, (bcz (bA BK101.out _) 1).trans rfl, (bcz (bA BK101.out _) 2).trans rfl, (World.cell?_alloc_lt _ _ _ (World.block_lt_of_cell? _ _ (((HB.out.cell (World.block_lt_of_cell? w _ hw115_0)).trans hw115_0)))).trans (((HB.out.cell (World.block_lt_of_cell? w _ hw115_0)).trans hw115_0))⟩ (fun hHeld => ?_)
           clear hK K
           refine norm_ (a' := ?_) ?_ ?_
           rotate_left
           ·show Act.put _ (some 38) _ = _
            simp only [Act.put, sA, sB, sC, i64_w, i32_w]
            rfl
           refine one_ (i := 9) (N := some 39) #[true, true, true, true, true, true, true, true, true, true, false, false] rfl rfl (one_of HT_.out (by kernel_rfl)) (by decide) (fun K hK => ?_)
           refine Kd.R_append_step Kd.bool (w0 := w) w.heap.size (by rfl) (.tmp 31) (.tmp 38) 23 4 (.bool false) 1 rfl Try.underlying23 info4 rfl (by decide) (by omega) u105002 x105002_1 (!(rdOf false l0_2 x17_1)) [.bool (!(rdOf false l0_2 x17_1))] (fun _ => True) (fun _ => False) rfl rfl ?aP (fun _ hk => hk.elim) ?aF ?aO ?aB ?aS ?aL ?_
           (case aP => exact rfl)
           (case aB => exact (by repeat (first | (with_reducible first | exact HB.out | apply ba | apply pN | apply bD | refine bS ?_ GE101.out | refine bS ?_ GE102.out | refine bS ?_ GE104.out) | exact HB.out)))
           (case aF => exact (fun _ _ => trivial))
           (case aO => exact (by (with_reducible repeat (first | apply Kd.R_alloc | apply Kd.R_drewN | apply Kd.R_drew)); exact HO_105002.out))
           (case aS => exact (below_size (by repeat (first | (with_reducible first | exact HB.out | apply ba | apply pN | apply bD | refine bS ?_ GE101.out | refine bS ?_ GE102.out | refine bS ?_ GE104.out) | exact HB.out))))
           (case aL => have := LMc21.out; omega)
           intro v117 w32 ho hb hg hat
           rw [← Ny116.out] at ho
           have n0_ := Q0.mk (bG (g := gb101) (o := .cells #[.int .i64 a0_0, .slice (some ad105) l0_1.length c0_1, .slice (some ad115) l0_2.length c0_2] 25 (0, 0)) (by (with_reducible repeat (first | refine bN ?_ _ | refine bdz ?_ | refine bA ?_ _)); exact BK101.out) hg (Kd.R_ne HO_105002.out BK101.out (by decide)))
           have n1_ := Q0.mk (bG (g := gb102) (o := .cells #[.int .i64 0, .slice none 0 0, .slice none 0 0] 25 (0, 0)) (by (with_reducible repeat (first | refine bN ?_ _ | refine bdz ?_ | refine bA ?_ _)); exact BK102.out) hg (Kd.R_ne HO_105002.out BK102.out (by decide)))
           have n2_ := Q0.mk (bG (g := gb104) (o := .cells #[.int .i64 a0_0, .slice Ao28 y112.length co28, u105002] 25 (0, 0)) (by (with_reducible repeat (first | refine bN ?_ _ | refine bdz ?_ | refine bA ?_ _)); exact BK104.out) hg (Kd.R_ne HO_105002.out BK104.out (by decide)))
           have n3_ := Q0.mk (Kd.S_over' (by (with_reducible repeat (first | apply Kd.S_alloc | apply Kd.S_drewN | apply Kd.S_drew)); exact HO114.out) (Kd.R_typed (by (with_reducible repeat (first | apply Kd.R_alloc | apply Kd.R_drewN | apply Kd.R_drew)); exact HO_105002.out)) (by decide) hg)
           have n4_ := Q0.mk (hb)
           have n5_ := Q0.mk (ho)
           clear BK101
           clear BK102
           clear BK104
           clear HO114
           clear HB
           clear HO_105002
           have BK101 := n0_
           have BK102 := n1_
           have BK104 := n2_
           have HO114 := n3_
           have HB := n4_
           have HO118 := n5_
           clear n0_ n1_ n2_ n3_ n4_ n5_
           clear ho hb hg hat
           obtain ⟨Ao33, co33, eo33⟩ := Kd.R_slice HO118.out
           (first | subst eo33 | (injection eo33 with f1_ f2_ f3_; have f4_ := f1_.symm; have f5_ := f3_.symm; clear f1_ f2_ f3_; subst f4_; subst f5_))
           refine hK.out _ _ ⟨(bcz BK104.out 0).trans rfl, (bcz BK104.out 1).trans rfl, (bcz BK104.out 2).trans rfl, (bcz BK101.out 0).trans rfl, (bcz BK101.out 1).trans rfl, (bcz BK101.out 2).trans rfl, ((HB.out.cell (World.block_lt_of_cell? w _ hw115_0)).trans hw115_0)⟩ (fun hHeld => ?_)
           clear hK K
           refine norm_ (a' := ?_) ?_ ?_
           rotate_left
           ·show Act.put _ (some 39) _ = _
            simp only [Act.put, sA, sB, sC, i64_w, i32_w]
            rfl
           refine pure_ (i := 10) (N := some 40) (v := ?_) (a' := ?_) #[true, true, true, true, true, true, true, true, true, true, true, false] rfl rfl (any_of HT_.out (by kernel_rfl)) (fun _ _ _ h => h) (Or.inl ⟨by rfl, ?_⟩) ?_ ?_
           rotate_left
           ·intro w'
            go_simp
            with_reducible rfl
           rotate_left
           ·simp only [Act.put, sA, sB, sC, i64_w, i32_w]
            rfl
           refine last_ (i := 11) (N := none) #[true, true, true, true, true, true, true, true, true, true, true, true] rfl rfl (one_of HT_.out (by kernel_rfl)) (by decide) (fun K hK => ?_)
           have hs34 : w32.cell? ⟨gb104, 2, none⟩ = some (u105002) := (bcz BK104.out 2).trans rfl
           have hfs34 := bf BK104.out 2
           have hns34_0 := NB101_104.out
           have hns34_1 := NB102_104.out
           have hms34_0 := NB104_101.out
           have hms34_1 := NB104_102.out
           refine skip_ (w1 := ?_) (by rfl) rfl ?_ ?_
           rotate_left
           ·go_simp
            rfl
           refine hK.out _ _ ?_
           clear hK K
           refine done_ (done_of HT_.out (by kernel_rfl)) ?_
           try go_wp2
           go_roundg k1
           case measure => have := HK1.out; omega
           case rel => exact ⟨(wrap64 (x17_1 + 1)), (y112), (y116), (.slice Ao28 y112.length co28), (.slice Ao33 y116.length co33), (by first | rfl | (simp; done) | (simp [*]; done)), H', ⟨by have := HK1.out; omega⟩, ⟨by (with_reducible repeat (first | apply Kd.S_alloc | apply Kd.S_drewN | apply Kd.S_drew)); exact Kd.S_mono (Kd.S_far (p := ⟨gb104, 2, none⟩) (Kd.S_types HO114.out BK104.out (by decide)) (fun _ hk => hk.2) (.slice Ao33 y116.length co33)) (fun _ hk => trivial)⟩, ⟨by (with_reducible repeat (first | apply Kd.R_alloc | apply Kd.R_drewN | apply Kd.R_drew)); exact Kd.R_mono (Kd.R_far (p := ⟨gb104, 2, none⟩) (Kd.R_types HO118.out BK104.out (by decide)) (fun _ hk => hk.2) (.slice Ao33 y116.length co33)) (fun _ hk => trivial)⟩, ⟨by (with_reducible repeat (first | refine bN ?_ _ | refine bdz ?_ | refine bA ?_ _)); refine bF ?_ NB101_104.out _; (with_reducible repeat (first | refine bN ?_ _ | refine bdz ?_ | refine bA ?_ _)); exact BK101.out⟩, ⟨by (with_reducible repeat (first | refine bN ?_ _ | refine bdz ?_ | refine bA ?_ _)); refine bF ?_ NB102_104.out _; (with_reducible repeat (first | refine bN ?_ _ | refine bdz ?_ | refine bA ?_ _)); exact BK102.out⟩, ⟨by (with_reducible repeat (first | refine bN ?_ _ | refine bdz ?_ | refine bA ?_ _)); refine bp (cs := #[.int .i64 a0_0, .slice Ao28 y112.length co28, u105002]) ?_ 2 _ rfl; (with_reducible repeat (first | refine bN ?_ _ | refine bdz ?_ | refine bA ?_ _)); exact BK104.out⟩, ⟨by repeat (first | (with_reducible first | exact HB.out | apply ba | apply pN | apply bD | refine bS ?_ GE101.out | refine bS ?_ GE102.out | refine bS ?_ GE104.out) | exact HB.out)⟩⟩
          ·rw [if_neg c21] at H
           exact absurd H (by simp)
         ·rw [if_neg c20] at H
          exact absurd H (by simp)
        ·rw [if_neg c19] at H
         exact absurd H (by simp)
       ·rw [if_neg c18] at H
        exact absurd H (by simp)
      ·rw [if_neg c17] at H
       exact absurd H (by simp)
     ·rw [if_neg c16] at H
      exact absurd H (by simp)
    ·rw [if_neg c15] at H
     have c15b0 : decide (x17_1 < (l0_1.length : Int)) = false := decide_eq_false c15
     clear c15
     simp only [Option.some.injEq, Prod.mk.injEq] at H
     obtain ⟨rfl, rfl, rfl, rfl⟩ := H
     have hnb35 := NB104_101.out
     have hnc35 := NB101_104.out
     have hnb36 := NB104_102.out
     have hnc36 := NB102_104.out
     have hcz37_0 : wr.cell? ⟨gb104, 0, none⟩ = some (.int .i64 a0_0) := (bcz BK104.out 0).trans rfl
     have hcz37_1 : wr.cell? ⟨gb104, 1, none⟩ = some (u105001) := (bcz BK104.out 1).trans rfl
     have hcz37_2 : wr.cell? ⟨gb104, 2, none⟩ = some (u105002) := (bcz BK104.out 2).trans rfl
     have hfz37_0 := bf BK104.out 0
     have hfz37_1 := bf BK104.out 1
     have hfz37_2 := bf BK104.out 2
     have hnb38 := NB102_101.out
     have hnc38 := NB101_102.out
     have hcz39_0 : wr.cell? ⟨gb102, 0, none⟩ = some (.int .i64 0) := (bcz BK102.out 0).trans rfl
     have hcz39_1 : wr.cell? ⟨gb102, 1, none⟩ = some (.slice none 0 0) := (bcz BK102.out 1).trans rfl
     have hcz39_2 : wr.cell? ⟨gb102, 2, none⟩ = some (.slice none 0 0) := (bcz BK102.out 2).trans rfl
     have hfz39_0 := bf BK102.out 0
     have hfz39_1 := bf BK102.out 1
     have hfz39_2 := bf BK102.out 2
     obtain ⟨Ao40, co40, eo40⟩ := Kd.S_slice HO_105001.out
     subst eo40
     obtain ⟨Ao41, co41, eo41⟩ := Kd.R_slice HO_105002.out
     subst eo41
     go_wp2
     refine bodyPost_ret (results_ct rfl _ _ gb102 25 #[.int .i64 a0_0, .slice Ao40 x105001_1.length co40, .slice Ao41 x105002_1.length co41] (0, 0) _ rfl (by (with_reducible repeat (first | refine bN ?_ _ | refine bdz ?_ | refine bA ?_ _)); refine bp (cs := #[.int .i64 a0_0, .slice Ao40 x105001_1.length co40, .slice none 0 0]) ?_ 2 _ rfl; (with_reducible repeat (first | refine bN ?_ _ | refine bdz ?_ | refine bA ?_ _)); refine bp (cs := #[.int .i64 a0_0, .slice none 0 0, .slice none 0 0]) ?_ 1 _ rfl; (with_reducible repeat (first | refine bN ?_ _ | refine bdz ?_ | refine bA ?_ _)); refine bp (cs := #[.int .i64 0, .slice none 0 0, .slice none 0 0]) ?_ 0 _ rfl; (with_reducible repeat (first | refine bN ?_ _ | refine bdz ?_ | refine bA ?_ _)); exact BK102.out) Try.underlying25 rfl (by kernel_rfl)) rfl ?_
     exact ⟨_, _, by first | rfl | (simp [errW_none, errW_some] <;> rfl) | (simp [*, errW_none, errW_some] <;> rfl), by (with_reducible repeat (first | apply Kd.S_alloc | apply Kd.S_drewN | apply Kd.S_drew)); exact Kd.S_mono (Kd.S_far (p := ⟨gb102, 2, none⟩) (Kd.S_far (p := ⟨gb102, 1, none⟩) (Kd.S_far (p := ⟨gb102, 0, none⟩) (Kd.S_types HO_105001.out BK102.out (by decide)) (fun _ hk => hk.2) (.int .i64 a0_0)) (fun _ hk => hk.2) (.slice Ao40 x105001_1.length co40)) (fun _ hk => hk.2) (.slice Ao41 x105002_1.length co41)) (fun _ hk => trivial), by (with_reducible repeat (first | apply Kd.R_alloc | apply Kd.R_drewN | apply Kd.R_drew)); exact Kd.R_mono (Kd.R_far (p := ⟨gb102, 2, none⟩) (Kd.R_far (p := ⟨gb102, 1, none⟩) (Kd.R_far (p := ⟨gb102, 0, none⟩) (Kd.R_types HO_105002.out BK102.out (by decide)) (fun _ hk => hk.2) (.int .i64 a0_0)) (fun _ hk => hk.2) (.slice Ao40 x105001_1.length co40)) (fun _ hk => hk.2) (.slice Ao41 x105002_1.length co41)) (fun _ hk => trivial), by repeat (first | (with_reducible first | exact HB.out | apply ba | apply pN | apply bD | refine bS ?_ GE101.out | refine bS ?_ GE102.out | refine bS ?_ GE104.out) | exact HB.out)⟩
 ·replace c3 := Bool.eq_false_iff.mpr c3
  subst c3
  have H1 : (some (0, ([] : List (List Int)), ([] : List Bool), false)) = some (r1, r2, r3, r4) := by rw [if_neg (show ¬ (false = true) by decide)] at H; exact H
  clear H
  have H := H1
  clear H1
  simp only [Option.some.injEq, Prod.mk.injEq] at H
  obtain ⟨rfl, rfl, rfl, rfl⟩ := H
  go_enter Try.func77, Try.ntmps77
  go_wp2_with (first | ((with_reducible refine gate_dst (N := 1) rfl ?_); refine box_event ?hg (N := 1) ?hd (cs := #[.int .i64 a0_0, .slice A0_1 l0_1.length c0_1, .slice A0_2 l0_2.length c0_2]) (t := 25) ?hr ?_; (case hd => rfl); (case hg => rfl); (case hr => first | (go_simp; done) | (go_simp; rfl)); intro gb101 hg w42 hbox hb; have n0_ := Q0.mk (bsz (by repeat (first | (with_reducible first | exact HB.out | apply ba | apply pN | apply bD) | exact HB.out)) hb); have n1_ := Q0.mk (hbox); have n2_ := Q0.mk ((by rw [hg]; exact (below_size (by repeat (first | (with_reducible first | exact HB.out | apply ba | apply pN | apply bD) | exact HB.out))) : w.heap.size ≤ gb101)); have n3_ := Q0.mk ((by rw [hg]; exact (below_size (by repeat (first | (with_reducible first | exact HB.out | apply ba | apply pN | apply bD) | exact HB.out))) : w.heap.size ≤ gb101)); clear HB; have HB := n0_; have BK101 := n1_; have GW101 := n2_; have GE101 := n3_; clear n0_ n1_ n2_ n3_; clear hb hbox hg) | ((with_reducible refine gate_dst (N := 2) rfl ?_); refine box_event ?hg (N := 2) ?hd (cs := #[.int .i64 0, .slice none 0 0, .slice none 0 0]) (t := 25) ?hr ?_; (case hd => rfl); (case hg => rfl); (case hr => first | (go_simp; done) | (go_simp; rfl)); intro gb102 hg w43 hbox hb; have n0_ := Q0.mk (bb (g := gb101) (o := .cells #[.int .i64 a0_0, .slice A0_1 l0_1.length c0_1, .slice A0_2 l0_2.length c0_2] 25 (0, 0)) (by (with_reducible repeat (first | refine bN ?_ _ | refine bdz ?_ | refine bA ?_ _)); exact BK101.out) hb); have n1_ := Q0.mk (bsz (by repeat (first | (with_reducible first | exact HB.out | apply ba | apply pN | apply bD | refine bS ?_ GE101.out) | exact HB.out)) hb); have n2_ := Q0.mk (hbox); have n3_ := Q0.mk ((by rw [hg]; exact (below_size (by repeat (first | (with_reducible first | exact HB.out | apply ba | apply pN | apply bD | refine bS ?_ GE101.out) | exact HB.out))) : w.heap.size ≤ gb102)); have n4_ := Q0.mk ((by rw [hg]; exact (below_size (by repeat (first | (with_reducible first | exact HB.out | apply ba | apply pN | apply bD | refine bS ?_ GE101.out) | exact HB.out))) : w.heap.size ≤ gb102)); have n5_ := Q0.mk ((by rw [hg]; exact Nat.ne_of_lt (blk_lt (g := gb101) (o := .cells #[.int .i64 a0_0, .slice A0_1 l0_1.length c0_1, .slice A0_2 l0_2.length c0_2] 25 (0, 0)) (by (with_reducible repeat (first | refine bN ?_ _ | refine bdz ?_ | refine bA ?_ _)); exact BK101.out)) : gb101 ≠ gb102)); have n6_ := Q0.mk ((by rw [hg]; exact Nat.ne_of_gt (blk_lt (g := gb101) (o := .cells #[.int .i64 a0_0, .slice A0_1 l0_1.length c0_1, .slice A0_2 l0_2.length c0_2] 25 (0, 0)) (by (with_reducible repeat (first | refine bN ?_ _ | refine bdz ?_ | refine bA ?_ _)); exact BK101.out)) : gb102 ≠ gb101)); clear BK101; clear HB; have BK101 := n0_; have HB := n1_; have BK102 := n2_; have GW102 := n3_; have GE102 := n4_; have NB101_102 := n5_; have NB102_101 := n6_; clear n0_ n1_ n2_ n3_ n4_ n5_ n6_; clear hb hbox hg; have hnb44 := NB101_102.out; have hnc44 := NB102_101.out; have hcz45_0 : w43.cell? ⟨gb101, 0, none⟩ = some (.int .i64 a0_0) := (bcz BK101.out 0).trans rfl; have hcz45_1 : w43.cell? ⟨gb101, 1, none⟩ = some (.slice A0_1 l0_1.length c0_1) := (bcz BK101.out 1).trans rfl; have hcz45_2 : w43.cell? ⟨gb101, 2, none⟩ = some (.slice A0_2 l0_2.length c0_2) := (bcz BK101.out 2).trans rfl; have hfz45_0 := bf BK101.out 0; have hfz45_1 := bf BK101.out 1; have hfz45_2 := bf BK101.out 2) | ((with_reducible refine gate_callee (f := 36) rfl ?_); refine goesL_ (some 8) rfl rfl Try.func36 (by kernel_rfl) rfl #[.agg #[.int .i64 a0_0, .slice A0_1 l0_1.length c0_1, .slice A0_2 l0_2.length c0_2]] rfl (by (try simp only [List.map_toArray, List.map_cons, List.map_nil]); first | done | rfl | (simp only [List.length_drop, List.length_take]; rfl)) ?_; (with_reducible refine (thompson_Good.calls a0_0 _ _ l0_1 _ _ l0_2 false _ ?side1 ?side2 ?side3 ?side4 A2.out).mono ?_); (case side1 => repeat (first | exact (Kd.C_below HR0_1.out HB.out) | (with_reducible refine Kd.C_alloc ?_ _) | (with_reducible refine Kd.C_drewN ?_ _) | (with_reducible refine Kd.C_drew ?_))); (case side2 => exact HC0_1.out); (case side3 => repeat (first | exact (Kd.C_below HR0_2.out HB.out) | (with_reducible refine Kd.C_alloc ?_ _) | (with_reducible refine Kd.C_drewN ?_ _) | (with_reducible refine Kd.C_drew ?_))); (case side4 => exact HC0_2.out); rintro e w46 ⟨rfl, hb⟩; refine ⟨_, rfl, ?_⟩; have n0_ := Q0.mk (bb (g := gb101) (o := .cells #[.int .i64 a0_0, .slice A0_1 l0_1.length c0_1, .slice A0_2 l0_2.length c0_2] 25 (0, 0)) (by (with_reducible repeat (first | refine bN ?_ _ | refine bdz ?_ | refine bA ?_ _)); exact BK101.out) hb); have n1_ := Q0.mk (bb (g := gb102) (o := .cells #[.int .i64 0, .slice none 0 0, .slice none 0 0] 25 (0, 0)) (by (with_reducible repeat (first | refine bN ?_ _ | refine bdz ?_ | refine bA ?_ _)); exact BK102.out) hb); have n2_ := Q0.mk (bsz (by repeat (first | (with_reducible first | exact HB.out | apply ba | apply pN | apply bD | refine bS ?_ GE101.out | refine bS ?_ GE102.out) | exact HB.out)) hb); clear BK101; clear BK102; clear HB; have BK101 := n0_; have BK102 := n1_; have HB := n2_; clear n0_ n1_ n2_; (try clear hb); (try clear hb2); (try clear hk); (try clear hi); have hcz47_0 : w46.cell? ⟨gb102, 0, none⟩ = some (.int .i64 0) := (bcz BK102.out 0).trans rfl; have hcz47_1 : w46.cell? ⟨gb102, 1, none⟩ = some (.slice none 0 0) := (bcz BK102.out 1).trans rfl; have hcz47_2 : w46.cell? ⟨gb102, 2, none⟩ = some (.slice none 0 0) := (bcz BK102.out 2).trans rfl; have hfz47_0 := bf BK102.out 0; have hfz47_1 := bf BK102.out 1; have hfz47_2 := bf BK102.out 2))
  refine bodyPost_ret (results_ct rfl _ _ gb102 25 #[.int .i64 0, .slice none 0 0, .slice none 0 0] (0, 0) _ rfl (by (with_reducible repeat (first | refine bN ?_ _ | refine bdz ?_ | refine bA ?_ _)); refine bp (cs := #[.int .i64 0, .slice none 0 0, .slice none 0 0]) ?_ 2 _ rfl; (with_reducible repeat (first | refine bN ?_ _ | refine bdz ?_ | refine bA ?_ _)); refine bp (cs := #[.int .i64 0, .slice none 0 0, .slice none 0 0]) ?_ 1 _ rfl; (with_reducible repeat (first | refine bN ?_ _ | refine bdz ?_ | refine bA ?_ _)); refine bp (cs := #[.int .i64 0, .slice none 0 0, .slice none 0 0]) ?_ 0 _ rfl; (with_reducible repeat (first | refine bN ?_ _ | refine bdz ?_ | refine bA ?_ _)); exact BK102.out) Try.underlying25 rfl (by kernel_rfl)) rfl ?_
  exact ⟨_, _, by first | rfl | (simp [errW_none, errW_some] <;> rfl) | (simp [*, errW_none, errW_some] <;> rfl), by first | exact Kd.S_nil _ _ _ _ _ | exact Kd.N_nil _ _ _ _ _ | exact Kd.V_nil _ _ _ _ _ | exact Kd.Q_nil _ _ _ _ _ | exact Kd.R_nil _ _ _ _ _, by first | exact Kd.R_nil _ _ _ _ _ | exact Kd.N_nil _ _ _ _ _ | exact Kd.V_nil _ _ _ _ _ | exact Kd.Q_nil _ _ _ _ _ | exact Kd.S_nil _ _ _ _ _, by repeat (first | (with_reducible first | exact HB.out | apply ba | apply pN | apply bD | refine bS ?_ GE101.out | refine bS ?_ GE102.out) | exact HB.out)⟩

end Go.Proofs.Ytelkjbacdpmnfaa.A
