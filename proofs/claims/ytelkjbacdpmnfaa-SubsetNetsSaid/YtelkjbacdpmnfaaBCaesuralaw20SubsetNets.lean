/- Contracts. -/
import Derived.Test.YtelkjbacdpmnfaaB0
import Derived.Test.YtelkjbacdpmnfaaBCaesuralaw20Wakes
import Derived.Test.YtelkjbacdpmnfaaBCaesuraref19Good
import Derived.Test.YtelkjbacdpmnfaaBCaesuraref19Of
import Derived.Test.YtelkjbacdpmnfaaBSets
import Derived.Test.YtelkjbacdpmnfaaBSets
import Derived.Test.YtelkjbacdpmnfaaBSubsetTakes






namespace Go.Proofs.Ytelkjbacdpmnfaa.A
open Go.RowKit Go.W_.PrintWords Go.W_.PrintLast Go.W_.PrintMore
attribute [local go_sem] max2_int min2_int max_two min_two max_three min_three max_four min_four
set_option linter.unusedVariables false
set_option linter.unusedSimpArgs false

def cl20_SubsetNets.l0 : Nat → List Int → List Int → Int → Int → List (List Int) → List Bool → Option (Bool)
 | 0, _, _, _, _, _, _ => none
 | k + 1, x1, x5, x6, x102000, x102001, x102002 => if x6 < (x1.length : Int) then (if 0 ≤ x6 then (if x102000 = 0 then (none) else (if x5.length < 17592186044416 then (cl20_SubsetNets.l0 k x1 (x5 ++ [Int.tmod (wrap64 (rd x1 x6)) x102000]) (wrap64 (x6 + 1)) x102000 x102001 x102002) else (none))) else (none)) else ((cr19_Of.f x102000 x102001 x102002).bind fun bt109 => ((subset_Of.f k bt109.1 bt109.2.1 60).bind fun bt114 => (if 2 ≤ 11728124029610 then ((subset_Of.f k x102000 (List.replicate 2 []) 60).bind fun bt126 => (if bt114.2.2.2 = 0 then (if bt126.2.2.2 = 0 then (if (bt114.2.1.length : Int) > (wrap64 ((x102001.length : Int) + 1)) then (none) else (if (bt126.2.1.length : Int) > 2 then (none) else ((subset_Takes.f k bt114.1 bt114.2.1 bt114.2.2.1 x5).bind fun t135 => ((subset_Takes.f k x102000 x102001 x102002 x5).bind fun t136 => (if (t135 == t136) = true then ((subset_Takes.f k bt126.1 bt126.2.1 bt126.2.2.1 x5).bind fun t137 => (if t137 = true then (none) else ((cl20_wakes.f k).bind fun t138 => (some t138)))) else (none)))))) else (none)) else (none))) else (none))))
def cl20_SubsetNets.f (k : Nat) (a0_0 : Int) (l0_1 : List (List Int)) (l0_2 : List Bool) (l1 : List Int) : Option (Bool) := (cr19_Good.f k a0_0 l0_1 l0_2).bind fun t102 => (if t102 = true then (if (l0_1.length : Int) > 30 then ((cl20_wakes.f k).bind fun t103 => (some t103)) else (if (l1.length : Int) > 30 then ((cl20_wakes.f k).bind fun t104 => (some t104)) else (cl20_SubsetNets.l0 k l1 ([] : List Int) 0 a0_0 l0_1 l0_2))) else ((cl20_wakes.f k).bind fun t139 => (some t139)))
theorem cl20_SubsetNets.mono_l : ∀ k, (∀ y0 y1 y2 y3 y4 y5, LeO (cl20_SubsetNets.l0 k y0 y1 y2 y3 y4 y5) (cl20_SubsetNets.l0 (k + 1) y0 y1 y2 y3 y4 y5))
 | 0 => fun _ _ _ _ _ _ r h => by simp [cl20_SubsetNets.l0] at h
 | k + 1 => by
  have ih0 := cl20_SubsetNets.mono_l k
  ·intro y0 y1 y2 y3 y4 y5
   unfold cl20_SubsetNets.l0
   repeat' first
   | (with_reducible exact ih0 _ _ _ _ _ _)
   | (with_reducible exact cl20_wakes.mono _)
   | (with_reducible exact cr19_Good.mono _ _ _ _)
   | (with_reducible exact subset_Of.mono _ _ _ _)
   | (with_reducible exact subset_Takes.mono _ _ _ _ _)
   | (with_reducible exact LeO.refl _)
   | (with_reducible exact LeO.none _)
   | (with_reducible refine LeO.ite ?_ ?_)
   | (with_reducible refine LeO.bind ?_ (fun _ => ?_))
   | exact ih0 _ _ _ _ _ _
   | exact cl20_wakes.mono _
   | exact cr19_Good.mono _ _ _ _
   | exact subset_Of.mono _ _ _ _
   | exact subset_Takes.mono _ _ _ _ _
   | exact LeO.none _
   | refine LeO.ite ?_ ?_
   | refine LeO.bind ?_ (fun _ => ?_)
theorem cl20_SubsetNets.mono : ∀ a0 a1 a2 a3 k, LeO (cl20_SubsetNets.f k a0 a1 a2 a3) (cl20_SubsetNets.f (k + 1) a0 a1 a2 a3) := by
 intro a0 a1 a2 a3 k
 have ih0 := cl20_SubsetNets.mono_l k
 unfold cl20_SubsetNets.f
 repeat' first
   | (with_reducible exact ih0 _ _ _ _ _ _)
   | (with_reducible exact cl20_wakes.mono _)
   | (with_reducible exact cr19_Good.mono _ _ _ _)
   | (with_reducible exact subset_Of.mono _ _ _ _)
   | (with_reducible exact subset_Takes.mono _ _ _ _ _)
   | (with_reducible exact LeO.refl _)
   | (with_reducible exact LeO.none _)
   | (with_reducible refine LeO.ite ?_ ?_)
   | (with_reducible refine LeO.bind ?_ (fun _ => ?_))
   | exact ih0 _ _ _ _ _ _
   | exact cl20_wakes.mono _
   | exact cr19_Good.mono _ _ _ _
   | exact subset_Of.mono _ _ _ _
   | exact subset_Takes.mono _ _ _ _ _
   | exact LeO.none _
   | refine LeO.ite ?_ ?_
   | refine LeO.bind ?_ (fun _ => ?_)
def cl20_SubsetNets.T7 : Bool × List (List Nat × List Nat) := (true, [([], []), ([], []), ([], []), ([1, 2], [1, 2]), ([3], [3]), ([4], [4]), ([], []), ([6], [6]), ([5, 7], [5, 7]), ([8], [8]), ([0, 9], [0, 9]), ([10, 10, 0, 1, 2, 3, 4, 5, 6, 7, 8, 9, 10], [0, 10])])
def cl20_SubsetNets.B7 : List Nat := [0, 0, 0, 6, 14, 30, 0, 64, 254, 510, 1023, 2047]
theorem cl20_SubsetNets.tab7 : rtab .any (opsOf Try.f13 7) = cl20_SubsetNets.T7 := by kernel_rfl
theorem cl20_SubsetNets.bits7 : waitsOk cl20_SubsetNets.T7.2 cl20_SubsetNets.B7 = true := by kernel_rfl
def cl20_SubsetNets.T9 : Bool × List (List Nat × List Nat) := (true, [([], []), ([0], [0]), ([], []), ([1, 2], [1, 2]), ([3], [3]), ([4], [4]), ([5], [5]), ([5], [5]), ([], []), ([8, 6, 4, 0, 1, 2, 3, 4, 5, 6, 8], [6, 8]), ([7, 9, 0, 1, 2, 3, 4, 5, 6, 7, 8, 9], [7])])
def cl20_SubsetNets.B9 : List Nat := [0, 1, 0, 7, 15, 31, 63, 63, 0, 383, 1023]
theorem cl20_SubsetNets.tab9 : rtab .any (opsOf Try.f13 9) = cl20_SubsetNets.T9 := by kernel_rfl
theorem cl20_SubsetNets.bits9 : waitsOk cl20_SubsetNets.T9.2 cl20_SubsetNets.B9 = true := by kernel_rfl
def cl20_SubsetNets.T12 : Bool × List (List Nat × List Nat) := (true, [([], []), ([], []), ([0, 1], [0, 1]), ([], []), ([], []), ([3, 4, 2], [3, 4]), ([2, 5], [2, 5]), ([6, 5], [6]), ([7], [7]), ([7], [7]), ([8, 9, 7, 7], [7, 8, 9]), ([10, 7], [7, 10]), ([7, 11], [7, 11]), ([12, 10], [12]), ([13, 13], [13]), ([13, 14], [13, 14]), ([15, 14, 0, 1, 2, 3, 4, 5, 6, 7, 8, 9, 10, 11, 12, 13, 14, 15], [15])])
def cl20_SubsetNets.B12 : List Nat := [0, 0, 3, 0, 0, 31, 63, 127, 255, 255, 1023, 2047, 4095, 8191, 16383, 32767, 65535]
theorem cl20_SubsetNets.tab12 : rtab .any (opsOf Try.f13 12) = cl20_SubsetNets.T12 := by kernel_rfl
theorem cl20_SubsetNets.bits12 : waitsOk cl20_SubsetNets.T12.2 cl20_SubsetNets.B12 = true := by kernel_rfl
set_option maxHeartbeats 8000000 in
set_option maxRecDepth 100000 in
theorem cl20_SubsetNets.calls (k : Nat) (a0_0 : Int) (A0_1 : Option Addr) (c0_1 : Nat) (l0_1 : List (List Int)) (A0_2 : Option Addr) (c0_2 : Nat) (l0_2 : List Bool) (A1 : Option Addr) (c1 : Nat) (l1 : List Int) (r : Bool) (w : World) (hr0_1 : Kd.C (Kd.slice 3 (Kd.int .i64)) w A0_1 l0_1.length l0_1) (hc0_1 : l0_1.length ≤ c0_1) (hr0_2 : Kd.C Kd.bool w A0_2 l0_2.length l0_2) (hc0_2 : l0_2.length ≤ c0_2) (hr1 : Kd.C (Kd.int .u8) w A1 l1.length l1) (hc1 : l1.length ≤ c1) (h : cl20_SubsetNets.f k a0_0 l0_1 l0_2 l1 = some r) :
  Calls Try.prog 13 #[.agg #[.int .i64 a0_0, .slice A0_1 l0_1.length c0_1, .slice A0_2 l0_2.length c0_2], .slice A1 l1.length c1] w fun e w' => e = .returned (.bool r) ∧ Below w.heap.size w w' := by
 have hu25 := Try.underlying25
 have hu28 := Try.underlying28
 have HR0_1 := Q0z.mk hr0_1
 have HC0_1 := Q0z.mk hc0_1
 clear hr0_1 hc0_1
 have HR0_2 := Q0z.mk hr0_2
 have HC0_2 := Q0z.mk hc0_2
 clear hr0_2 hc0_2
 have HR1 := Q0z.mk hr1
 have HC1 := Q0z.mk hc1
 clear hr1 hc1
 have HB := Q0z.mk (Below.refl w.heap.size w)
 have H : ((cr19_Good.f k a0_0 l0_1 l0_2).bind fun t102 => (if t102 = true then (if (l0_1.length : Int) > 30 then ((cl20_wakes.f k).bind fun t103 => (some t103)) else (if (l1.length : Int) > 30 then ((cl20_wakes.f k).bind fun t104 => (some t104)) else (cl20_SubsetNets.l0 k l1 ([] : List Int) 0 a0_0 l0_1 l0_2))) else ((cl20_wakes.f k).bind fun t139 => (some t139)))) = some r := h
 clear h
 replace H := Option.bind_eq_some_iff.mp H
 obtain ⟨t102, A30, H⟩ := H
 replace H : (if t102 = true then (if (l0_1.length : Int) > 30 then ((cl20_wakes.f k).bind fun t103 => (some t103)) else (if (l1.length : Int) > 30 then ((cl20_wakes.f k).bind fun t104 => (some t104)) else (cl20_SubsetNets.l0 k l1 ([] : List Int) 0 a0_0 l0_1 l0_2))) else ((cl20_wakes.f k).bind fun t139 => (some t139))) = some r := H
 have A3 := Q0z.mk A30
 clear A30
 by_cases c4 : t102 = true
 ·subst c4
  have H1 : (if (l0_1.length : Int) > 30 then ((cl20_wakes.f k).bind fun t103 => (some t103)) else (if (l1.length : Int) > 30 then ((cl20_wakes.f k).bind fun t104 => (some t104)) else (cl20_SubsetNets.l0 k l1 ([] : List Int) 0 a0_0 l0_1 l0_2))) = some r := by rw [if_pos rfl] at H; exact H
  clear H
  have H := H1
  clear H1
  by_cases c5 : (l0_1.length : Int) > 30
  ·rw [if_pos c5] at H
   have c5b0 : decide (30 < (l0_1.length : Int)) = true := decide_eq_true c5
   have c5b1 : decide (30 < l0_1.length) = true := decide_eq_true (by omega)
   clear c5
   replace H := Option.bind_eq_some_iff.mp H
   obtain ⟨t103, A60, H⟩ := H
   replace H : (some t103) = some r := H
   have A6 := Q0z.mk A60
   clear A60
   obtain rfl := Option.some.inj H
   have hf38_ := field38
   go_enter Try.func13, Try.ntmps13
   go_wp2_with (first | ((with_reducible refine gate_dst (N := 2) rfl ?_); (try (refine gate_guard (by rfl) ?_; dsimp only)); refine box_event ?hg (N := 2) ?hd (cs := #[.int .i64 a0_0, .slice A0_1 l0_1.length c0_1, .slice A0_2 l0_2.length c0_2]) (t := 25) ?hr ?_; (case hd => rfl); (case hg => rfl); (case hr => first | (go_simp; done) | (go_simp; rfl)); intro gb101 hg w7 hbox hb; have n0_ := Q0z.mk (bsz (by repeat (first | (with_reducible first | exact HB.1 | apply ba | apply pN | apply bD) | exact HB.1)) hb); have n1_ := Q0z.mk (hbox); have n2_ := Q0z.mk ((by rw [hg]; exact (below_size (by repeat (first | (with_reducible first | exact HB.1 | apply ba | apply pN | apply bD) | exact HB.1))) : w.heap.size ≤ gb101)); have n3_ := Q0z.mk ((by rw [hg]; exact (below_size (by repeat (first | (with_reducible first | exact HB.1 | apply ba | apply pN | apply bD) | exact HB.1))) : w.heap.size ≤ gb101)); clear HB; have HB := n0_; have BK101 := n1_; have GW101 := n2_; have GE101 := n3_; clear n0_ n1_ n2_ n3_; clear hb hbox hg; have hcz8_0 : w7.cell? ⟨gb101, 0, none⟩ = some (.int .i64 a0_0) := (bcz BK101.1 0).trans rfl; have hcz8_1 : w7.cell? ⟨gb101, 1, none⟩ = some (.slice A0_1 l0_1.length c0_1) := (bcz BK101.1 1).trans rfl; have hcz8_2 : w7.cell? ⟨gb101, 2, none⟩ = some (.slice A0_2 l0_2.length c0_2) := (bcz BK101.1 2).trans rfl; have hfz8_0 := bf BK101.1 0; have hfz8_1 := bf BK101.1 1; have hfz8_2 := bf BK101.1 2) | ((with_reducible refine gate_callee (f := 37) rfl ?_); refine goesL_ (some 12) rfl rfl Try.func37 (by kernel_rfl) rfl #[.agg #[.int .i64 a0_0, .slice A0_1 l0_1.length c0_1, .slice A0_2 l0_2.length c0_2]] rfl (by (try simp only [List.map_toArray, List.map_cons, List.map_nil]); first | done | rfl | (simp only [List.length_drop, List.length_take]; rfl)) ?_; (with_reducible refine (cr19_Good.calls k a0_0 _ _ l0_1 _ _ l0_2 true _ ?side1 ?side2 ?side3 ?side4 A3.1).mono ?_); (case side1 => repeat (first | exact (Kd.C_below HR0_1.1 HB.1) | (with_reducible refine Kd.C_alloc ?_ _) | (with_reducible refine Kd.C_drewN ?_ _) | (with_reducible refine Kd.C_drew ?_))); (case side2 => exact HC0_1.1); (case side3 => repeat (first | exact (Kd.C_below HR0_2.1 HB.1) | (with_reducible refine Kd.C_alloc ?_ _) | (with_reducible refine Kd.C_drewN ?_ _) | (with_reducible refine Kd.C_drew ?_))); (case side4 => exact HC0_2.1); rintro e w9 ⟨rfl, hb⟩; refine ⟨_, rfl, ?_⟩; have n0_ := Q0z.mk (bbz (g := gb101) (o := .cells #[.int .i64 a0_0, .slice A0_1 l0_1.length c0_1, .slice A0_2 l0_2.length c0_2] 25 (0, 0)) (by (with_reducible repeat (first | refine bN ?_ _ | refine bd ?_ | refine bA ?_ _)); exact BK101.1) hb); have n1_ := Q0z.mk (bsz (by repeat (first | (with_reducible first | exact HB.1 | apply ba | apply pN | apply bD | refine bS ?_ GE101.1) | exact HB.1)) hb); clear BK101; clear HB; have BK101 := n0_; have HB := n1_; clear n0_ n1_; (try clear hb); (try clear hb2); (try clear hk); (try clear hi); have hcz10_0 : w9.cell? ⟨gb101, 0, none⟩ = some (.int .i64 a0_0) := (bcz BK101.1 0).trans rfl; have hcz10_1 : w9.cell? ⟨gb101, 1, none⟩ = some (.slice A0_1 l0_1.length c0_1) := (bcz BK101.1 1).trans rfl; have hcz10_2 : w9.cell? ⟨gb101, 2, none⟩ = some (.slice A0_2 l0_2.length c0_2) := (bcz BK101.1 2).trans rfl; have hfz10_0 := bf BK101.1 0; have hfz10_1 := bf BK101.1 1; have hfz10_2 := bf BK101.1 2) | ((with_reducible refine gate_callee (f := 57) rfl ?_); refine goesL_ (some 25) rfl rfl Try.func57 (by kernel_rfl) rfl #[] rfl (by (try simp only [List.map_toArray, List.map_cons, List.map_nil]); first | done | rfl | (simp only [List.length_drop, List.length_take]; rfl)) ?_; (with_reducible refine (cl20_wakes.calls k  t103 _ A6.1).mono ?_); rintro e w11 ⟨rfl, hb⟩; refine ⟨_, rfl, ?_⟩; have n0_ := Q0z.mk (bbz (g := gb101) (o := .cells #[.int .i64 a0_0, .slice A0_1 l0_1.length c0_1, .slice A0_2 l0_2.length c0_2] 25 (0, 0)) (by (with_reducible repeat (first | refine bN ?_ _ | refine bd ?_ | refine bA ?_ _)); exact BK101.1) hb); have n1_ := Q0z.mk (bsz (by repeat (first | (with_reducible first | exact HB.1 | apply ba | apply pN | apply bD | refine bS ?_ GE101.1) | exact HB.1)) hb); clear BK101; clear HB; have BK101 := n0_; have HB := n1_; clear n0_ n1_; (try clear hb); (try clear hb2); (try clear hk); (try clear hi)))
   go_ret
   exact ⟨by first | rfl | (simp [errW_none, errW_some] <;> rfl) | (simp [*, errW_none, errW_some] <;> rfl), by repeat (first | (with_reducible first | exact HB.1 | apply ba | apply pN | apply bD | refine bS ?_ GE101.1) | exact HB.1)⟩
  ·rw [if_neg c5] at H
   have c5b0 : decide (30 < (l0_1.length : Int)) = false := decide_eq_false c5
   have c5b1 : decide (30 < l0_1.length) = false := decide_eq_false (by omega)
   clear c5
   by_cases c12 : (l1.length : Int) > 30
   ·rw [if_pos c12] at H
    have c12b0 : decide (30 < (l1.length : Int)) = true := decide_eq_true c12
    have c12b1 : decide (30 < l1.length) = true := decide_eq_true (by omega)
    clear c12
    replace H := Option.bind_eq_some_iff.mp H
    obtain ⟨t104, A130, H⟩ := H
    replace H : (some t104) = some r := H
    have A13 := Q0z.mk A130
    clear A130
    obtain rfl := Option.some.inj H
    have hf38_ := field38
    go_enter Try.func13, Try.ntmps13
    go_wp2_with (first | ((with_reducible refine gate_dst (N := 2) rfl ?_); (try (refine gate_guard (by rfl) ?_; dsimp only)); refine box_event ?hg (N := 2) ?hd (cs := #[.int .i64 a0_0, .slice A0_1 l0_1.length c0_1, .slice A0_2 l0_2.length c0_2]) (t := 25) ?hr ?_; (case hd => rfl); (case hg => rfl); (case hr => first | (go_simp; done) | (go_simp; rfl)); intro gb101 hg w14 hbox hb; have n0_ := Q0z.mk (bsz (by repeat (first | (with_reducible first | exact HB.1 | apply ba | apply pN | apply bD) | exact HB.1)) hb); have n1_ := Q0z.mk (hbox); have n2_ := Q0z.mk ((by rw [hg]; exact (below_size (by repeat (first | (with_reducible first | exact HB.1 | apply ba | apply pN | apply bD) | exact HB.1))) : w.heap.size ≤ gb101)); have n3_ := Q0z.mk ((by rw [hg]; exact (below_size (by repeat (first | (with_reducible first | exact HB.1 | apply ba | apply pN | apply bD) | exact HB.1))) : w.heap.size ≤ gb101)); clear HB; have HB := n0_; have BK101 := n1_; have GW101 := n2_; have GE101 := n3_; clear n0_ n1_ n2_ n3_; clear hb hbox hg; have hcz15_0 : w14.cell? ⟨gb101, 0, none⟩ = some (.int .i64 a0_0) := (bcz BK101.1 0).trans rfl; have hcz15_1 : w14.cell? ⟨gb101, 1, none⟩ = some (.slice A0_1 l0_1.length c0_1) := (bcz BK101.1 1).trans rfl; have hcz15_2 : w14.cell? ⟨gb101, 2, none⟩ = some (.slice A0_2 l0_2.length c0_2) := (bcz BK101.1 2).trans rfl; have hfz15_0 := bf BK101.1 0; have hfz15_1 := bf BK101.1 1; have hfz15_2 := bf BK101.1 2) | ((with_reducible refine gate_callee (f := 37) rfl ?_); refine goesL_ (some 12) rfl rfl Try.func37 (by kernel_rfl) rfl #[.agg #[.int .i64 a0_0, .slice A0_1 l0_1.length c0_1, .slice A0_2 l0_2.length c0_2]] rfl (by (try simp only [List.map_toArray, List.map_cons, List.map_nil]); first | done | rfl | (simp only [List.length_drop, List.length_take]; rfl)) ?_; (with_reducible refine (cr19_Good.calls k a0_0 _ _ l0_1 _ _ l0_2 true _ ?side1 ?side2 ?side3 ?side4 A3.1).mono ?_); (case side1 => repeat (first | exact (Kd.C_below HR0_1.1 HB.1) | (with_reducible refine Kd.C_alloc ?_ _) | (with_reducible refine Kd.C_drewN ?_ _) | (with_reducible refine Kd.C_drew ?_))); (case side2 => exact HC0_1.1); (case side3 => repeat (first | exact (Kd.C_below HR0_2.1 HB.1) | (with_reducible refine Kd.C_alloc ?_ _) | (with_reducible refine Kd.C_drewN ?_ _) | (with_reducible refine Kd.C_drew ?_))); (case side4 => exact HC0_2.1); rintro e w16 ⟨rfl, hb⟩; refine ⟨_, rfl, ?_⟩; have n0_ := Q0z.mk (bbz (g := gb101) (o := .cells #[.int .i64 a0_0, .slice A0_1 l0_1.length c0_1, .slice A0_2 l0_2.length c0_2] 25 (0, 0)) (by (with_reducible repeat (first | refine bN ?_ _ | refine bd ?_ | refine bA ?_ _)); exact BK101.1) hb); have n1_ := Q0z.mk (bsz (by repeat (first | (with_reducible first | exact HB.1 | apply ba | apply pN | apply bD | refine bS ?_ GE101.1) | exact HB.1)) hb); clear BK101; clear HB; have BK101 := n0_; have HB := n1_; clear n0_ n1_; (try clear hb); (try clear hb2); (try clear hk); (try clear hi); have hcz17_0 : w16.cell? ⟨gb101, 0, none⟩ = some (.int .i64 a0_0) := (bcz BK101.1 0).trans rfl; have hcz17_1 : w16.cell? ⟨gb101, 1, none⟩ = some (.slice A0_1 l0_1.length c0_1) := (bcz BK101.1 1).trans rfl; have hcz17_2 : w16.cell? ⟨gb101, 2, none⟩ = some (.slice A0_2 l0_2.length c0_2) := (bcz BK101.1 2).trans rfl; have hfz17_0 := bf BK101.1 0; have hfz17_1 := bf BK101.1 1; have hfz17_2 := bf BK101.1 2) | ((with_reducible refine gate_callee (f := 57) rfl ?_); refine goesL_ (some 25) rfl rfl Try.func57 (by kernel_rfl) rfl #[] rfl (by (try simp only [List.map_toArray, List.map_cons, List.map_nil]); first | done | rfl | (simp only [List.length_drop, List.length_take]; rfl)) ?_; (with_reducible refine (cl20_wakes.calls k  t104 _ A13.1).mono ?_); rintro e w18 ⟨rfl, hb⟩; refine ⟨_, rfl, ?_⟩; have n0_ := Q0z.mk (bbz (g := gb101) (o := .cells #[.int .i64 a0_0, .slice A0_1 l0_1.length c0_1, .slice A0_2 l0_2.length c0_2] 25 (0, 0)) (by (with_reducible repeat (first | refine bN ?_ _ | refine bd ?_ | refine bA ?_ _)); exact BK101.1) hb); have n1_ := Q0z.mk (bsz (by repeat (first | (with_reducible first | exact HB.1 | apply ba | apply pN | apply bD | refine bS ?_ GE101.1) | exact HB.1)) hb); clear BK101; clear HB; have BK101 := n0_; have HB := n1_; clear n0_ n1_; (try clear hb); (try clear hb2); (try clear hk); (try clear hi)))
    go_ret
    exact ⟨by first | rfl | (simp [errW_none, errW_some] <;> rfl) | (simp [*, errW_none, errW_some] <;> rfl), by repeat (first | (with_reducible first | exact HB.1 | apply ba | apply pN | apply bD | refine bS ?_ GE101.1) | exact HB.1)⟩
   ·rw [if_neg c12] at H
    have c12b0 : decide (30 < (l1.length : Int)) = false := decide_eq_false c12
    have c12b1 : decide (30 < l1.length) = false := decide_eq_false (by omega)
    clear c12
    have H' := Q0z.mk H
    clear H
    have hf38_ := field38
    go_enter Try.func13, Try.ntmps13
    go_wp2_with (first | ((with_reducible refine gate_dst (N := 2) rfl ?_); (try (refine gate_guard (by rfl) ?_; dsimp only)); refine box_event ?hg (N := 2) ?hd (cs := #[.int .i64 a0_0, .slice A0_1 l0_1.length c0_1, .slice A0_2 l0_2.length c0_2]) (t := 25) ?hr ?_; (case hd => rfl); (case hg => rfl); (case hr => first | (go_simp; done) | (go_simp; rfl)); intro gb101 hg w19 hbox hb; have n0_ := Q0z.mk (bsz (by repeat (first | (with_reducible first | exact HB.1 | apply ba | apply pN | apply bD) | exact HB.1)) hb); have n1_ := Q0z.mk (hbox); have n2_ := Q0z.mk ((by rw [hg]; exact (below_size (by repeat (first | (with_reducible first | exact HB.1 | apply ba | apply pN | apply bD) | exact HB.1))) : w.heap.size ≤ gb101)); have n3_ := Q0z.mk ((by rw [hg]; exact (below_size (by repeat (first | (with_reducible first | exact HB.1 | apply ba | apply pN | apply bD) | exact HB.1))) : w.heap.size ≤ gb101)); clear HB; have HB := n0_; have BK101 := n1_; have GW101 := n2_; have GE101 := n3_; clear n0_ n1_ n2_ n3_; clear hb hbox hg; have hcz20_0 : w19.cell? ⟨gb101, 0, none⟩ = some (.int .i64 a0_0) := (bcz BK101.1 0).trans rfl; have hcz20_1 : w19.cell? ⟨gb101, 1, none⟩ = some (.slice A0_1 l0_1.length c0_1) := (bcz BK101.1 1).trans rfl; have hcz20_2 : w19.cell? ⟨gb101, 2, none⟩ = some (.slice A0_2 l0_2.length c0_2) := (bcz BK101.1 2).trans rfl; have hfz20_0 := bf BK101.1 0; have hfz20_1 := bf BK101.1 1; have hfz20_2 := bf BK101.1 2) | ((with_reducible refine gate_callee (f := 37) rfl ?_); refine goesL_ (some 12) rfl rfl Try.func37 (by kernel_rfl) rfl #[.agg #[.int .i64 a0_0, .slice A0_1 l0_1.length c0_1, .slice A0_2 l0_2.length c0_2]] rfl (by (try simp only [List.map_toArray, List.map_cons, List.map_nil]); first | done | rfl | (simp only [List.length_drop, List.length_take]; rfl)) ?_; (with_reducible refine (cr19_Good.calls k a0_0 _ _ l0_1 _ _ l0_2 true _ ?side1 ?side2 ?side3 ?side4 A3.1).mono ?_); (case side1 => repeat (first | exact (Kd.C_below HR0_1.1 HB.1) | (with_reducible refine Kd.C_alloc ?_ _) | (with_reducible refine Kd.C_drewN ?_ _) | (with_reducible refine Kd.C_drew ?_))); (case side2 => exact HC0_1.1); (case side3 => repeat (first | exact (Kd.C_below HR0_2.1 HB.1) | (with_reducible refine Kd.C_alloc ?_ _) | (with_reducible refine Kd.C_drewN ?_ _) | (with_reducible refine Kd.C_drew ?_))); (case side4 => exact HC0_2.1); rintro e w21 ⟨rfl, hb⟩; refine ⟨_, rfl, ?_⟩; have n0_ := Q0z.mk (bbz (g := gb101) (o := .cells #[.int .i64 a0_0, .slice A0_1 l0_1.length c0_1, .slice A0_2 l0_2.length c0_2] 25 (0, 0)) (by (with_reducible repeat (first | refine bN ?_ _ | refine bd ?_ | refine bA ?_ _)); exact BK101.1) hb); have n1_ := Q0z.mk (bsz (by repeat (first | (with_reducible first | exact HB.1 | apply ba | apply pN | apply bD | refine bS ?_ GE101.1) | exact HB.1)) hb); clear BK101; clear HB; have BK101 := n0_; have HB := n1_; clear n0_ n1_; (try clear hb); (try clear hb2); (try clear hk); (try clear hi); have hcz22_0 : w21.cell? ⟨gb101, 0, none⟩ = some (.int .i64 a0_0) := (bcz BK101.1 0).trans rfl; have hcz22_1 : w21.cell? ⟨gb101, 1, none⟩ = some (.slice A0_1 l0_1.length c0_1) := (bcz BK101.1 1).trans rfl; have hcz22_2 : w21.cell? ⟨gb101, 2, none⟩ = some (.slice A0_2 l0_2.length c0_2) := (bcz BK101.1 2).trans rfl; have hfz22_0 := bf BK101.1 0; have hfz22_1 := bf BK101.1 1; have hfz22_2 := bf BK101.1 2))
    go_loopg [5, 6] k (fun kq v5 v6 w' => ∃ (x5_1 : List Int) (x6_1 : Int), v6 = .int .i64 x6_1 ∧ Q0z (cl20_SubsetNets.l0 kq l1 x5_1 x6_1 a0_0 l0_1 l0_2 = some r) ∧ Q0z (kq ≤ k) ∧ Q0z (Kd.R (Kd.int .i64) 3 w' w.heap.size (fun _ => True) v5 x5_1) ∧ Q0z (w'.heap[gb101]? = some (.cells #[.int .i64 a0_0, (.slice A0_1 l0_1.length c0_1), (.slice A0_2 l0_2.length c0_2)] 25 (0, 0))) ∧ Q0z (Below w.heap.size w w'))
    case atStart => exact ⟨(([] : List Int)), (0), (by first | rfl | (simp; done) | (simp [*]; done)), H', ⟨Nat.le_refl _⟩, ⟨by first | exact Kd.R_nil _ _ _ _ _ | exact Kd.N_nil _ _ _ _ _ | exact Kd.V_nil _ _ _ _ _ | exact Kd.Q_nil _ _ _ _ _ | exact Kd.S_nil _ _ _ _ _⟩, ⟨by (with_reducible repeat (first | refine bN ?_ _ | refine bd ?_ | refine bA ?_ _)); exact BK101.1⟩, ⟨by repeat (first | (with_reducible first | exact HB.1 | apply ba | apply pN | apply bD | refine bS ?_ GE101.1) | exact HB.1)⟩⟩
    case round =>
     clear H'
     try clear c1
     try clear p2
     try clear c3
     try clear c4
     try clear c5
     try clear c5b0
     try clear c5b1
     try clear c12
     try clear c12b0
     try clear c12b1
     try clear c13
     try clear hcz10_0
     try clear hcz10_1
     try clear hcz10_2
     try clear hcz15_0
     try clear hcz15_1
     try clear hcz15_2
     try clear hcz17_0
     try clear hcz17_1
     try clear hcz17_2
     try clear hcz20_0
     try clear hcz20_1
     try clear hcz20_2
     try clear hcz22_0
     try clear hcz22_1
     try clear hcz22_2
     try clear hcz8_0
     try clear hcz8_1
     try clear hcz8_2
     try clear hfz10_0
     try clear hfz10_1
     try clear hfz10_2
     try clear hfz15_0
     try clear hfz15_1
     try clear hfz15_2
     try clear hfz17_0
     try clear hfz17_1
     try clear hfz17_2
     try clear hfz20_0
     try clear hfz20_1
     try clear hfz20_2
     try clear hfz22_0
     try clear hfz22_1
     try clear hfz22_2
     try clear hfz8_0
     try clear hfz8_1
     try clear hfz8_2
     obtain ⟨x5_1, x6_1, rfl, HA, HK1, HO_5, BK101, HB⟩ := hrel
     cases gk with
     | zero => exact absurd HA.1 (by simp [cl20_SubsetNets.l0])
     | succ k1 =>
      have H := HA.1
      clear HA
      simp only [cl20_SubsetNets.l0] at H
      by_cases c23 : x6_1 < (l1.length : Int)
      ·rw [if_pos c23] at H
       have c23b0 : decide (x6_1 < (l1.length : Int)) = true := decide_eq_true c23
       clear c23
       by_cases c24 : 0 ≤ x6_1
       ·rw [if_pos c24] at H
        have c24b0 : decide (0 ≤ x6_1) = true := decide_eq_true c24
        clear c24
        by_cases c25 : a0_0 = 0
        ·rw [if_pos c25] at H
         exact absurd H (by simp)
        ·rw [if_neg c25] at H
         have c25b0 : (a0_0 == 0) = false := beq_eq_false_iff_ne.mpr c25
         have c25b1 : (a0_0 != 0) = true := bne_iff_ne.mpr c25
         by_cases c26 : x5_1.length < 17592186044416
         ·rw [if_pos c26] at H
          have LMc26 := Q0z.mk c26
          clear c26
          obtain ⟨y106, hy106⟩ : ∃ y_ : List Int, y_ = (x5_1 ++ [Int.tmod (wrap64 (rd l1 x6_1)) a0_0]) := ⟨_, rfl⟩
          replace H : (cl20_SubsetNets.l0 k1 l1 y106 (wrap64 (x6_1 + 1)) a0_0 l0_1 l0_2) = some r := by first | (rw [hy106]; with_reducible exact H) | (have H2_ := (Option.bind_some _ _).symm.trans H; rw [hy106]; with_reducible exact H2_) | (have H2_ := (Option.bind_some _ _).symm.trans H; with_reducible exact H2_) | with_reducible exact H | (rw [hy106]; exact H) | exact H
          have Ny106 := Q0z.mk hy106
          clear hy106
          have H' := Q0z.mk H
          clear H
          try go_wp2
          have n0_ := Q0z.mk (Kd.R_drew HO_5.1)
          have n1_ := Q0z.mk (bd BK101.1)
          have n2_ := Q0z.mk (bD HB.1)
          clear HO_5
          clear BK101
          clear HB
          have HO_5 := n0_
          have BK101 := n1_
          have HB := n2_
          clear n0_ n1_ n2_
          have p105 : 0 ≤ (x6_1 : Int) := of_decide_eq_true (by first | (with_reducible assumption) | assumption)
          have q105 : x6_1 < (l1.length : Int) := of_decide_eq_true (by first | (with_reducible assumption) | assumption)
          obtain ⟨ad105, e105, hx105_0⟩ := Kd.at_int HR1.1 x6_1 p105 q105
          have hw105_0 := hx105_0
          cases e105
          replace hx105_0 := (HB.1.cell (World.block_lt_of_cell? w _ hx105_0)).trans hx105_0
          replace p105 := eq_true p105
          replace q105 := eq_true q105
          refine start_ (n := 12) (S := fun w' => w'.cell? ⟨gb101, 0, none⟩ = some (.int .i64 a0_0) ∧ w'.cell? ⟨gb101, 1, none⟩ = some (.slice A0_1 l0_1.length c0_1) ∧ w'.cell? ⟨gb101, 2, none⟩ = some (.slice A0_2 l0_2.length c0_2) ∧ w'.cell? (ad105.add (x6_1).toNat) = some (.int .u8 (rd l1 x6_1))) (ds := []) #[false, false, false, false, false, false, false, false, false, false, false, false] (by kernel_rfl) rfl rfl ⟨(bcz BK101.1 0).trans rfl, (bcz BK101.1 1).trans rfl, (bcz BK101.1 2).trans rfl, ((HB.1.cell (World.block_lt_of_cell? w _ hw105_0)).trans hw105_0)⟩ (fun hHeld => ?_); refine with_tabW cl20_SubsetNets.tab7 cl20_SubsetNets.bits7 (fun HT_ HW_ => ?_)
          generalize wr.drew = w27 at HO_5 BK101 HB hx105_0 hHeld ⊢
          refine pure_ (i := 0) (N := some 32) (v := ?_) (a' := ?_) #[true, false, false, false, false, false, false, false, false, false, false, false] rfl rfl (any_of HT_.1 (by kernel_rfl)) (fun _ _ _ h => h) (Or.inl ⟨by rfl, ?_⟩) ?_ ?_
          rotate_left
          ·intro w'
           go_simp
           with_reducible rfl
          rotate_left
          ·simp only [Act.put, sA, sB, sC, i64_w, i32_w]
           rfl
          refine pure_ (i := 1) (N := some 33) (v := ?_) (a' := ?_) #[true, true, false, false, false, false, false, false, false, false, false, false] rfl rfl (any_of HT_.1 (by kernel_rfl)) (fun _ _ _ h => h) (Or.inl ⟨by rfl, ?_⟩) ?_ ?_
          rotate_left
          ·intro w'
           go_simp
           with_reducible rfl
          rotate_left
          ·simp only [Act.put, sA, sB, sC, i64_w, i32_w]
           rfl
          refine pure_ (i := 2) (N := some 34) (v := ?_) (a' := ?_) #[true, true, true, false, false, false, false, false, false, false, false, false] rfl rfl (any_of HT_.1 (by kernel_rfl)) (fun _ _ _ h => h) (Or.inl ⟨by rfl, ?_⟩) ?_ ?_
          rotate_left
          ·intro w'
           go_simp
           with_reducible rfl
          rotate_left
          ·simp only [Act.put, sA, sB, sC, i64_w, i32_w]
           rfl
          refine pure_ (i := 3) (N := some 35) (v := ?_) (a' := ?_) #[true, true, true, true, false, false, false, false, false, false, false, false] rfl rfl (any_of HT_.1 (by kernel_rfl)) (fun _ _ _ h => h) (Or.inl ⟨by rfl, ?_⟩) ?_ ?_
          rotate_left
          ·intro w'
           go_simp
           with_reducible rfl
          rotate_left
          ·simp only [Act.put, sA, sB, sC, i64_w, i32_w]
           rfl
          refine pure_ (i := 6) (N := some 38) (v := ?_) (a' := ?_) #[true, true, true, true, false, false, true, false, false, false, false, false] rfl rfl (any_of HT_.1 (by kernel_rfl)) (fun _ _ _ h => h) (Or.inl ⟨by rfl, ?_⟩) ?_ ?_
          rotate_left
          ·intro w'
           go_simp
           with_reducible rfl
          rotate_left
          ·simp only [Act.put, sA, sB, sC, i64_w, i32_w]
           rfl
          refine take_ (i := 4) (N := some 36) (v := ?_) (a' := ?_) #[true, true, true, true, true, false, true, false, false, false, false, false] rfl rfl (take_ofW HT_.1 HW_.1 (by kernel_rfl)) (fun _ _ _ h => h) (Or.inl ⟨by rfl, ?_⟩) hHeld ?_ ?_
          rotate_left
          ·rintro w' ⟨s0, s1, s2, s3⟩
           go_simp
           with_reducible rfl
          rotate_left
          ·simp only [Act.put, sA, sB, sC, i64_w, i32_w]
           rfl
          refine pure_ (i := 5) (N := some 37) (v := ?_) (a' := ?_) #[true, true, true, true, true, true, true, false, false, false, false, false] rfl rfl (any_of HT_.1 (by kernel_rfl)) (fun _ _ _ h => h) (Or.inl ⟨by rfl, ?_⟩) ?_ ?_
          rotate_left
          ·intro w'
           go_simp
           with_reducible rfl
          rotate_left
          ·simp only [Act.put, sA, sB, sC, i64_w, i32_w]
           rfl
          refine take_ (i := 7) (N := some 39) (v := ?_) (a' := ?_) #[true, true, true, true, true, true, true, true, false, false, false, false] rfl rfl (take_ofW HT_.1 HW_.1 (by kernel_rfl)) (fun _ _ _ h => h) (Or.inl ⟨by rfl, ?_⟩) hHeld ?_ ?_
          rotate_left
          ·rintro w' ⟨s0, s1, s2, s3⟩
           go_simp
           with_reducible rfl
          rotate_left
          ·simp only [Act.put, sA, sB, sC, i64_w, i32_w]
           rfl
          refine pure_ (i := 8) (N := some 40) (v := ?_) (a' := ?_) #[true, true, true, true, true, true, true, true, true, false, false, false] rfl rfl (any_of HT_.1 (by kernel_rfl)) (fun _ _ _ h => h) (Or.inl ⟨by rfl, ?_⟩) ?_ ?_
          rotate_left
          ·intro w'
           go_simp
           with_reducible rfl
          rotate_left
          ·simp only [Act.put, sA, sB, sC, i64_w, i32_w]
           rfl
          refine one_ (i := 9) (N := some 41) #[true, true, true, true, true, true, true, true, true, true, false, false] rfl rfl (one_of HT_.1 (by kernel_rfl)) (by decide) (fun K hK => ?_)
          refine value_ (w1 := ?_) (v := ?_) (by rfl) rfl ?_ ?_
          rotate_left 2
          ·go_simp
           constructor
           ·rfl
           ·rfl
          refine hK.out _ _ ⟨(bcz (bA BK101.1 _) 0).trans rfl, (bcz (bA BK101.1 _) 1).trans rfl, (bcz (bA BK101.1 _) 2).trans rfl, (World.cell?_alloc_lt _ _ _ (World.block_lt_of_cell? _ _ (((HB.1.cell (World.block_lt_of_cell? w _ hw105_0)).trans hw105_0)))).trans (((HB.1.cell (World.block_lt_of_cell? w _ hw105_0)).trans hw105_0))⟩ (fun hHeld => ?_)
          clear hK K
          refine norm_ (a' := ?_) ?_ ?_
          rotate_left
          ·show Act.put _ (some 41) _ = _
           simp only [Act.put, sA, sB, sC, i64_w, i32_w]
           rfl
          refine one_ (i := 10) (N := some 42) #[true, true, true, true, true, true, true, true, true, true, true, false] rfl rfl (one_of HT_.1 (by kernel_rfl)) (by decide) (fun K hK => ?_)
          refine Kd.R_append_step (Kd.int .i64) (w0 := w) w.heap.size (by rfl) (.tmp 32) (.tmp 41) 45 3 (.int .i64 0) 8 rfl Try.underlying45 info3 rfl (by decide) (by omega) u5 x5_1 (Int.tmod (wrap64 (rd l1 x6_1)) a0_0) [.int .i64 (Int.tmod (wrap64 (rd l1 x6_1)) a0_0)] (fun _ => True) (fun _ => False) rfl rfl ?aP (fun _ hk => hk.elim) ?aF ?aO ?aB ?aS ?aL ?_
          (case aP => exact rfl)
          (case aB => exact (by repeat (first | (with_reducible first | exact HB.1 | apply ba | apply pN | apply bD | refine bS ?_ GE101.1) | exact HB.1)))
          (case aF => exact (fun _ _ => trivial))
          (case aO => exact (by (with_reducible repeat (first | apply Kd.R_alloc | apply Kd.R_drewN | apply Kd.R_drew)); exact HO_5.1))
          (case aS => exact (below_size (by repeat (first | (with_reducible first | exact HB.1 | apply ba | apply pN | apply bD | refine bS ?_ GE101.1) | exact HB.1))))
          (case aL => have := LMc26.1; omega)
          intro v107 w28 ho hb hg hat
          rw [← Ny106.1] at ho
          have n0_ := Q0z.mk (bG (g := gb101) (o := .cells #[.int .i64 a0_0, .slice A0_1 l0_1.length c0_1, .slice A0_2 l0_2.length c0_2] 25 (0, 0)) (by (with_reducible repeat (first | refine bN ?_ _ | refine bd ?_ | refine bA ?_ _)); exact BK101.1) hg (Kd.R_ne HO_5.1 BK101.1 (by decide)))
          have n1_ := Q0z.mk (hb)
          have n2_ := Q0z.mk (ho)
          clear BK101
          clear HB
          clear HO_5
          have BK101 := n0_
          have HB := n1_
          have HO108 := n2_
          clear n0_ n1_ n2_
          clear ho hb hg hat
          refine hK.out _ _ ⟨(bcz BK101.1 0).trans rfl, (bcz BK101.1 1).trans rfl, (bcz BK101.1 2).trans rfl, ((HB.1.cell (World.block_lt_of_cell? w _ hw105_0)).trans hw105_0)⟩ (fun hHeld => ?_)
          clear hK K
          refine norm_ (a' := ?_) ?_ ?_
          rotate_left
          ·show Act.put _ (some 42) _ = _
           simp only [Act.put, sA, sB, sC, i64_w, i32_w]
           rfl
          refine pure_ (i := 11) (N := some 5) (v := ?_) (a' := ?_) #[true, true, true, true, true, true, true, true, true, true, true, true] rfl rfl (any_of HT_.1 (by kernel_rfl)) (fun _ _ _ h => h) (Or.inl ⟨by rfl, ?_⟩) ?_ ?_
          rotate_left
          ·intro w'
           go_simp
           with_reducible rfl
          rotate_left
          ·simp only [Act.put, sA, sB, sC, i64_w, i32_w]
           rfl
          refine done_ (done_of HT_.1 (by kernel_rfl)) ?_
          try go_wp2
          go_roundg k1
          case measure => have := HK1.1; omega
          case rel => exact ⟨(y106), (wrap64 (x6_1 + 1)), (by first | rfl | (simp; done) | (simp [*]; done)), H', ⟨by have := HK1.1; omega⟩, ⟨by (with_reducible repeat (first | apply Kd.R_alloc | apply Kd.R_drewN | apply Kd.R_drew)); exact HO108.1⟩, ⟨by (with_reducible repeat (first | refine bN ?_ _ | refine bd ?_ | refine bA ?_ _)); exact BK101.1⟩, ⟨by repeat (first | (with_reducible first | exact HB.1 | apply ba | apply pN | apply bD | refine bS ?_ GE101.1) | exact HB.1)⟩⟩
         ·rw [if_neg c26] at H
          exact absurd H (by simp)
       ·rw [if_neg c24] at H
        exact absurd H (by simp)
      ·rw [if_neg c23] at H
       have c23b0 : decide (x6_1 < (l1.length : Int)) = false := decide_eq_false c23
       clear c23
       replace H := Option.bind_eq_some_iff.mp H
       obtain ⟨⟨t109, t110, t113⟩, A290, H⟩ := H
       replace H : ((subset_Of.f k1 t109 t110 60).bind fun bt114 => (if 2 ≤ 11728124029610 then ((subset_Of.f k1 a0_0 (List.replicate 2 []) 60).bind fun bt126 => (if bt114.2.2.2 = 0 then (if bt126.2.2.2 = 0 then (if (bt114.2.1.length : Int) > (wrap64 ((l0_1.length : Int) + 1)) then (none) else (if (bt126.2.1.length : Int) > 2 then (none) else ((subset_Takes.f k1 bt114.1 bt114.2.1 bt114.2.2.1 x5_1).bind fun t135 => ((subset_Takes.f k1 a0_0 l0_1 l0_2 x5_1).bind fun t136 => (if (t135 == t136) = true then ((subset_Takes.f k1 bt126.1 bt126.2.1 bt126.2.2.1 x5_1).bind fun t137 => (if t137 = true then (none) else ((cl20_wakes.f k1).bind fun t138 => (some t138)))) else (none)))))) else (none)) else (none))) else (none))) = some r := H
       have A29 := Q0z.mk A290
       clear A290
       replace H := Option.bind_eq_some_iff.mp H
       obtain ⟨⟨t114, t115, t118, t121⟩, A300, H⟩ := H
       replace H : (if 2 ≤ 11728124029610 then ((subset_Of.f k1 a0_0 (List.replicate 2 []) 60).bind fun bt126 => (if t121 = 0 then (if bt126.2.2.2 = 0 then (if (t115.length : Int) > (wrap64 ((l0_1.length : Int) + 1)) then (none) else (if (bt126.2.1.length : Int) > 2 then (none) else ((subset_Takes.f k1 t114 t115 t118 x5_1).bind fun t135 => ((subset_Takes.f k1 a0_0 l0_1 l0_2 x5_1).bind fun t136 => (if (t135 == t136) = true then ((subset_Takes.f k1 bt126.1 bt126.2.1 bt126.2.2.1 x5_1).bind fun t137 => (if t137 = true then (none) else ((cl20_wakes.f k1).bind fun t138 => (some t138)))) else (none)))))) else (none)) else (none))) else (none)) = some r := H
       have A30 := Q0z.mk A300
       clear A300
       by_cases c31 : 2 ≤ 11728124029610
       ·rw [if_pos c31] at H
        have c31b0 := eq_true c31
        have c31b1 : decide (2 ≤ 11728124029610) = true := decide_eq_true c31
        clear c31
        obtain ⟨y123, hy123⟩ : ∃ y_ : List (List (S82)), y_ = (List.replicate 2 []) := ⟨_, rfl⟩
        replace H : ((subset_Of.f k1 a0_0 y123 60).bind fun bt126 => (if t121 = 0 then (if bt126.2.2.2 = 0 then (if (t115.length : Int) > (wrap64 ((l0_1.length : Int) + 1)) then (none) else (if (bt126.2.1.length : Int) > 2 then (none) else ((subset_Takes.f k1 t114 t115 t118 x5_1).bind fun t135 => ((subset_Takes.f k1 a0_0 l0_1 l0_2 x5_1).bind fun t136 => (if (t135 == t136) = true then ((subset_Takes.f k1 bt126.1 bt126.2.1 bt126.2.2.1 x5_1).bind fun t137 => (if t137 = true then (none) else ((cl20_wakes.f k1).bind fun t138 => (some t138)))) else (none)))))) else (none)) else (none))) = some r := by first | (rw [hy123]; with_reducible exact H) | (have H2_ := (Option.bind_some _ _).symm.trans H; rw [hy123]; with_reducible exact H2_) | (have H2_ := (Option.bind_some _ _).symm.trans H; with_reducible exact H2_) | with_reducible exact H | (rw [hy123]; exact H) | exact H
        have Ny123 := Q0z.mk hy123
        clear hy123
        replace H := Option.bind_eq_some_iff.mp H
        obtain ⟨⟨t126, t127, t130, t133⟩, A320, H⟩ := H
        replace H : (if t121 = 0 then (if t133 = 0 then (if (t115.length : Int) > (wrap64 ((l0_1.length : Int) + 1)) then (none) else (if (t127.length : Int) > 2 then (none) else ((subset_Takes.f k1 t114 t115 t118 x5_1).bind fun t135 => ((subset_Takes.f k1 a0_0 l0_1 l0_2 x5_1).bind fun t136 => (if (t135 == t136) = true then ((subset_Takes.f k1 t126 t127 t130 x5_1).bind fun t137 => (if t137 = true then (none) else ((cl20_wakes.f k1).bind fun t138 => (some t138)))) else (none)))))) else (none)) else (none)) = some r := H
        have A32 := Q0z.mk A320
        clear A320
        by_cases c33 : t121 = 0
        ·rw [if_pos c33] at H
         have c33b0 : (t121 == 0) = true := beq_iff_eq.mpr c33
         have c33b1 : (t121 != 0) = false := bne_eq_false_iff_eq.mpr c33
         clear c33
         by_cases c34 : t133 = 0
         ·rw [if_pos c34] at H
          have c34b0 : (t133 == 0) = true := beq_iff_eq.mpr c34
          have c34b1 : (t133 != 0) = false := bne_eq_false_iff_eq.mpr c34
          clear c34
          by_cases c35 : (t115.length : Int) > (wrap64 ((l0_1.length : Int) + 1))
          ·rw [if_pos c35] at H
           exact absurd H (by simp)
          ·rw [if_neg c35] at H
           have c35b0 : decide ((wrap64 ((l0_1.length : Int) + 1)) < (t115.length : Int)) = false := decide_eq_false c35
           clear c35
           by_cases c36 : (t127.length : Int) > 2
           ·rw [if_pos c36] at H
            exact absurd H (by simp)
           ·rw [if_neg c36] at H
            have c36b0 : decide (2 < (t127.length : Int)) = false := decide_eq_false c36
            have c36b1 : decide (2 < t127.length) = false := decide_eq_false (by omega)
            clear c36
            replace H := Option.bind_eq_some_iff.mp H
            obtain ⟨t135, A370, H⟩ := H
            replace H : ((subset_Takes.f k1 a0_0 l0_1 l0_2 x5_1).bind fun t136 => (if (t135 == t136) = true then ((subset_Takes.f k1 t126 t127 t130 x5_1).bind fun t137 => (if t137 = true then (none) else ((cl20_wakes.f k1).bind fun t138 => (some t138)))) else (none))) = some r := H
            have A37 := Q0z.mk A370
            clear A370
            replace H := Option.bind_eq_some_iff.mp H
            obtain ⟨t136, A380, H⟩ := H
            replace H : (if (t135 == t136) = true then ((subset_Takes.f k1 t126 t127 t130 x5_1).bind fun t137 => (if t137 = true then (none) else ((cl20_wakes.f k1).bind fun t138 => (some t138)))) else (none)) = some r := H
            have A38 := Q0z.mk A380
            clear A380
            by_cases c39 : (t135 == t136) = true
            ·rw [if_pos c39] at H
             have c39b0 : (t135 == t136) = true := c39
             (try (have c39b1 : decide (t135 = t136) = true := by simpa using c39))
             (try (have c39b2 : (t135 == t136) = true := by simpa using c39))
             clear c39
             replace H := Option.bind_eq_some_iff.mp H
             obtain ⟨t137, A400, H⟩ := H
             replace H : (if t137 = true then (none) else ((cl20_wakes.f k1).bind fun t138 => (some t138))) = some r := H
             have A40 := Q0z.mk A400
             clear A400
             by_cases c41 : t137 = true
             ·subst c41
              have H1 : (none) = some r := by rw [if_pos rfl] at H; exact H
              clear H
              have H := H1
              clear H1
              exact absurd H (by simp)
             ·replace c41 := Bool.eq_false_iff.mpr c41
              subst c41
              have H1 : ((cl20_wakes.f k1).bind fun t138 => (some t138)) = some r := by rw [if_neg (show ¬ (false = true) by decide)] at H; exact H
              clear H
              have H := H1
              clear H1
              replace H := Option.bind_eq_some_iff.mp H
              obtain ⟨t138, A420, H⟩ := H
              replace H : (some t138) = some r := H
              have A42 := Q0z.mk A420
              clear A420
              obtain rfl := Option.some.inj H
              have hcz43_0 : wr.cell? ⟨gb101, 0, none⟩ = some (.int .i64 a0_0) := (bcz BK101.1 0).trans rfl
              have hcz43_1 : wr.cell? ⟨gb101, 1, none⟩ = some (.slice A0_1 l0_1.length c0_1) := (bcz BK101.1 1).trans rfl
              have hcz43_2 : wr.cell? ⟨gb101, 2, none⟩ = some (.slice A0_2 l0_2.length c0_2) := (bcz BK101.1 2).trans rfl
              have hfz43_0 := bf BK101.1 0
              have hfz43_1 := bf BK101.1 1
              have hfz43_2 := bf BK101.1 2
              try go_wp2_with (first | ((with_reducible refine gate_callee (f := 32) rfl ?_); refine goesL_ (some 45) rfl rfl Try.func32 (by kernel_rfl) rfl #[.agg #[.int .i64 a0_0, .slice A0_1 l0_1.length c0_1, .slice A0_2 l0_2.length c0_2]] rfl (by (try simp only [List.map_toArray, List.map_cons, List.map_nil]); first | done | rfl | (simp only [List.length_drop, List.length_take]; rfl)) ?_; (with_reducible refine (cr19_Of.calls a0_0 _ _ l0_1 _ _ l0_2 t109 t110 t113 _ ?side1 ?side2 ?side3 ?side4 A29.1).mono ?_); (case side1 => repeat (first | exact (Kd.C_below HR0_1.1 HB.1) | (with_reducible refine Kd.C_alloc ?_ _) | (with_reducible refine Kd.C_drewN ?_ _) | (with_reducible refine Kd.C_drew ?_))); (case side2 => exact HC0_1.1); (case side3 => repeat (first | exact (Kd.C_below HR0_2.1 HB.1) | (with_reducible refine Kd.C_alloc ?_ _) | (with_reducible refine Kd.C_drewN ?_ _) | (with_reducible refine Kd.C_drew ?_))); (case side4 => exact HC0_2.1); rintro e w44 ⟨v111, rfl, ho0, hb⟩; refine ⟨_, rfl, ?_⟩; have n0_ := Q0z.mk (Kd.R_below (by (with_reducible repeat (first | apply Kd.R_alloc | apply Kd.R_drewN | apply Kd.R_drew)); exact HO_5.1) hb); have n1_ := Q0z.mk (Kd.S_lower ho0 (below_size (by repeat (first | (with_reducible first | exact HB.1 | apply ba | apply pN | apply bD | refine bS ?_ GE101.1) | exact HB.1)))); have n2_ := Q0z.mk (bbz (g := gb101) (o := .cells #[.int .i64 a0_0, .slice A0_1 l0_1.length c0_1, .slice A0_2 l0_2.length c0_2] 25 (0, 0)) (by (with_reducible repeat (first | refine bN ?_ _ | refine bd ?_ | refine bA ?_ _)); exact BK101.1) hb); have n3_ := Q0z.mk (bsz (by repeat (first | (with_reducible first | exact HB.1 | apply ba | apply pN | apply bD | refine bS ?_ GE101.1) | exact HB.1)) hb); clear HO_5; clear BK101; clear HB; have HO_5 := n0_; have HO112 := n1_; have BK101 := n2_; have HB := n3_; clear n0_ n1_ n2_ n3_; (try clear hb); (try clear hb2); (try clear hk); (try clear hi); (try clear ho0); obtain ⟨Ao45, co45, eo45⟩ := Kd.S_slice HO112.1; subst eo45) | ((with_reducible refine gate_callee (f := 58) rfl ?_); refine goesL_ (some 47) rfl rfl Try.func58 (by kernel_rfl) rfl #[.agg #[.int .i64 t109, .slice Ao45 t110.length co45], .int .i64 60] rfl (by (try simp only [List.map_toArray, List.map_cons, List.map_nil]); first | done | rfl | (simp only [List.length_drop, List.length_take]; rfl)) ?_; (with_reducible refine (subset_Of.calls k1 t109 _ _ t110 60 t114 t115 t118 t121 _ ?side1 ?side2 A30.1).mono ?_); (case side1 => repeat (first | exact (Kd.S_reads' HO112.1).2.2 | (with_reducible refine Kd.C_alloc ?_ _) | (with_reducible refine Kd.C_drewN ?_ _) | (with_reducible refine Kd.C_drew ?_))); (case side2 => exact (Kd.S_reads' HO112.1).2.1); rintro e w46 ⟨v116, v119, rfl, ho0, ho1, hb⟩; refine ⟨_, rfl, ?_⟩; have n0_ := Q0z.mk (Kd.R_below (by (with_reducible repeat (first | apply Kd.R_alloc | apply Kd.R_drewN | apply Kd.R_drew)); exact HO_5.1) hb); have n1_ := Q0z.mk (Kd.S_below (by (with_reducible repeat (first | apply Kd.S_alloc | apply Kd.S_drewN | apply Kd.S_drew)); exact HO112.1) hb); have n2_ := Q0z.mk (Kd.S_lower (Kd.S_new' ho0 (Kd.R_lt (by (with_reducible repeat (first | apply Kd.R_alloc | apply Kd.R_drewN | apply Kd.R_drew)); exact HO_5.1))) (below_size (by repeat (first | (with_reducible first | exact HB.1 | apply ba | apply pN | apply bD | refine bS ?_ GE101.1) | exact HB.1)))); have n3_ := Q0z.mk (Kd.R_lower ho1 (below_size (by repeat (first | (with_reducible first | exact HB.1 | apply ba | apply pN | apply bD | refine bS ?_ GE101.1) | exact HB.1)))); have n4_ := Q0z.mk (bbz (g := gb101) (o := .cells #[.int .i64 a0_0, .slice A0_1 l0_1.length c0_1, .slice A0_2 l0_2.length c0_2] 25 (0, 0)) (by (with_reducible repeat (first | refine bN ?_ _ | refine bd ?_ | refine bA ?_ _)); exact BK101.1) hb); have n5_ := Q0z.mk (bsz (by repeat (first | (with_reducible first | exact HB.1 | apply ba | apply pN | apply bD | refine bS ?_ GE101.1) | exact HB.1)) hb); clear HO_5; clear HO112; clear BK101; clear HB; have HO_5 := n0_; have HO112 := n1_; have HO117 := n2_; have HO120 := n3_; have BK101 := n4_; have HB := n5_; clear n0_ n1_ n2_ n3_ n4_ n5_; (try clear hb); (try clear hb2); (try clear hk); (try clear hi); (try clear ho0); (try clear ho1)) | ((with_reducible refine gate_dst (N := 7) rfl ?_); (try (refine gate_guard (by rfl) ?_; dsimp only)); refine box_event ?hg (N := 7) ?hd (cs := #[.int .i64 0, .slice none 0 0, .slice none 0 0]) (t := 25) ?hr ?_; (case hd => rfl); (case hg => rfl); (case hr => first | (go_simp; done) | (go_simp; rfl)); intro gb122 hg w47 hbox hb; have n0_ := Q0z.mk (Kd.R_below (by (with_reducible repeat (first | apply Kd.R_alloc | apply Kd.R_drewN | apply Kd.R_drew)); exact HO_5.1) hb); have n1_ := Q0z.mk (Kd.S_below (by (with_reducible repeat (first | apply Kd.S_alloc | apply Kd.S_drewN | apply Kd.S_drew)); exact HO112.1) hb); have n2_ := Q0z.mk (Kd.S_below (by (with_reducible repeat (first | apply Kd.S_alloc | apply Kd.S_drewN | apply Kd.S_drew)); exact HO117.1) hb); have n3_ := Q0z.mk (Kd.R_below (by (with_reducible repeat (first | apply Kd.R_alloc | apply Kd.R_drewN | apply Kd.R_drew)); exact HO120.1) hb); have n4_ := Q0z.mk (bbz (g := gb101) (o := .cells #[.int .i64 a0_0, .slice A0_1 l0_1.length c0_1, .slice A0_2 l0_2.length c0_2] 25 (0, 0)) (by (with_reducible repeat (first | refine bN ?_ _ | refine bd ?_ | refine bA ?_ _)); exact BK101.1) hb); have n5_ := Q0z.mk (bsz (by repeat (first | (with_reducible first | exact HB.1 | apply ba | apply pN | apply bD | refine bS ?_ GE101.1) | exact HB.1)) hb); have n6_ := Q0z.mk (hbox); have n7_ := Q0z.mk ((by rw [hg]; exact (below_size (by repeat (first | (with_reducible first | exact HB.1 | apply ba | apply pN | apply bD | refine bS ?_ GE101.1) | exact HB.1))) : w.heap.size ≤ gb122)); have n8_ := Q0z.mk ((by rw [hg]; exact (below_size (by repeat (first | (with_reducible first | exact HB.1 | apply ba | apply pN | apply bD | refine bS ?_ GE101.1) | exact HB.1))) : w.heap.size ≤ gb122)); have n9_ := Q0z.mk ((by rw [hg]; exact Nat.ne_of_lt (blk_lt (g := gb101) (o := .cells #[.int .i64 a0_0, .slice A0_1 l0_1.length c0_1, .slice A0_2 l0_2.length c0_2] 25 (0, 0)) (by (with_reducible repeat (first | refine bN ?_ _ | refine bd ?_ | refine bA ?_ _)); exact BK101.1)) : gb101 ≠ gb122)); have n10_ := Q0z.mk ((by rw [hg]; exact Nat.ne_of_gt (blk_lt (g := gb101) (o := .cells #[.int .i64 a0_0, .slice A0_1 l0_1.length c0_1, .slice A0_2 l0_2.length c0_2] 25 (0, 0)) (by (with_reducible repeat (first | refine bN ?_ _ | refine bd ?_ | refine bA ?_ _)); exact BK101.1)) : gb122 ≠ gb101)); clear HO_5; clear HO112; clear HO117; clear HO120; clear BK101; clear HB; have HO_5 := n0_; have HO112 := n1_; have HO117 := n2_; have HO120 := n3_; have BK101 := n4_; have HB := n5_; have BK122 := n6_; have GW122 := n7_; have GE122 := n8_; have NB101_122 := n9_; have NB122_101 := n10_; clear n0_ n1_ n2_ n3_ n4_ n5_ n6_ n7_ n8_ n9_ n10_; clear hb hbox hg; have hnb48 := NB122_101.1; have hnc48 := NB101_122.1; have hcz49_0 : w47.cell? ⟨gb122, 0, none⟩ = some (.int .i64 0) := (bcz BK122.1 0).trans rfl; have hcz49_1 : w47.cell? ⟨gb122, 1, none⟩ = some (.slice none 0 0) := (bcz BK122.1 1).trans rfl; have hcz49_2 : w47.cell? ⟨gb122, 2, none⟩ = some (.slice none 0 0) := (bcz BK122.1 2).trans rfl; have hfz49_0 := bf BK122.1 0; have hfz49_1 := bf BK122.1 1; have hfz49_2 := bf BK122.1 2; obtain ⟨Ao50, co50, eo50⟩ := Kd.S_slice HO117.1; subst eo50; obtain ⟨Ao51, co51, eo51⟩ := Kd.R_slice HO120.1; subst eo51))
              have n0_ : Q0z (Kd.R (Kd.int .i64) 3 (((w47.setCell ⟨gb122, 0, none⟩ (.int .i64 t114)).setCell ⟨gb122, 1, none⟩ (.slice Ao50 t115.length co50)).setCell ⟨gb122, 2, none⟩ (.slice Ao51 t118.length co51)) w.heap.size (fun _ => True) u5 x5_1) := ⟨by (with_reducible repeat (first | apply Kd.R_alloc | apply Kd.R_drewN | apply Kd.R_drew)); exact Kd.R_mono (Kd.R_far (p := ⟨gb122, 2, none⟩) (Kd.R_far (p := ⟨gb122, 1, none⟩) (Kd.R_far (p := ⟨gb122, 0, none⟩) (Kd.R_types HO_5.1 BK122.1 (by decide)) (fun _ hk => hk.2) (.int .i64 t114)) (fun _ hk => hk.2) (.slice Ao50 t115.length co50)) (fun _ hk => hk.2) (.slice Ao51 t118.length co51)) (fun _ hk => trivial)⟩
              have n1_ : Q0z (Kd.S (Kd.slice 82 k82) 79 (((w47.setCell ⟨gb122, 0, none⟩ (.int .i64 t114)).setCell ⟨gb122, 1, none⟩ (.slice Ao50 t115.length co50)).setCell ⟨gb122, 2, none⟩ (.slice Ao51 t118.length co51)) w.heap.size (fun _ => True) (.slice Ao45 t110.length co45) t110) := ⟨by (with_reducible repeat (first | apply Kd.S_alloc | apply Kd.S_drewN | apply Kd.S_drew)); exact Kd.S_mono (Kd.S_far (p := ⟨gb122, 2, none⟩) (Kd.S_far (p := ⟨gb122, 1, none⟩) (Kd.S_far (p := ⟨gb122, 0, none⟩) (Kd.S_types HO112.1 BK122.1 (by decide)) (fun _ hk => hk.2) (.int .i64 t114)) (fun _ hk => hk.2) (.slice Ao50 t115.length co50)) (fun _ hk => hk.2) (.slice Ao51 t118.length co51)) (fun _ hk => trivial)⟩
              have n2_ : Q0z (Kd.S (Kd.slice 3 (Kd.int .i64)) 45 (((w47.setCell ⟨gb122, 0, none⟩ (.int .i64 t114)).setCell ⟨gb122, 1, none⟩ (.slice Ao50 t115.length co50)).setCell ⟨gb122, 2, none⟩ (.slice Ao51 t118.length co51)) w.heap.size (fun k_ => some k_ ≠ (u5 : Value).ownBlock) (.slice Ao50 t115.length co50) t115) := ⟨by (with_reducible repeat (first | apply Kd.S_alloc | apply Kd.S_drewN | apply Kd.S_drew)); exact Kd.S_mono (Kd.S_far (p := ⟨gb122, 2, none⟩) (Kd.S_far (p := ⟨gb122, 1, none⟩) (Kd.S_far (p := ⟨gb122, 0, none⟩) (Kd.S_types HO117.1 BK122.1 (by decide)) (fun _ hk => hk.2) (.int .i64 t114)) (fun _ hk => hk.2) (.slice Ao50 t115.length co50)) (fun _ hk => hk.2) (.slice Ao51 t118.length co51)) (fun _ hk => hk.1.2)⟩
              have n3_ : Q0z (Kd.R Kd.bool 4 (((w47.setCell ⟨gb122, 0, none⟩ (.int .i64 t114)).setCell ⟨gb122, 1, none⟩ (.slice Ao50 t115.length co50)).setCell ⟨gb122, 2, none⟩ (.slice Ao51 t118.length co51)) w.heap.size (fun _ => True) (.slice Ao51 t118.length co51) t118) := ⟨by (with_reducible repeat (first | apply Kd.R_alloc | apply Kd.R_drewN | apply Kd.R_drew)); exact Kd.R_mono (Kd.R_far (p := ⟨gb122, 2, none⟩) (Kd.R_far (p := ⟨gb122, 1, none⟩) (Kd.R_far (p := ⟨gb122, 0, none⟩) (Kd.R_types HO120.1 BK122.1 (by decide)) (fun _ hk => hk.2) (.int .i64 t114)) (fun _ hk => hk.2) (.slice Ao50 t115.length co50)) (fun _ hk => hk.2) (.slice Ao51 t118.length co51)) (fun _ hk => trivial)⟩
              have n4_ : Q0z ((((w47.setCell ⟨gb122, 0, none⟩ (.int .i64 t114)).setCell ⟨gb122, 1, none⟩ (.slice Ao50 t115.length co50)).setCell ⟨gb122, 2, none⟩ (.slice Ao51 t118.length co51)).heap[gb101]? = some (.cells #[.int .i64 a0_0, .slice A0_1 l0_1.length c0_1, .slice A0_2 l0_2.length c0_2] 25 (0, 0))) := ⟨by (with_reducible repeat (first | refine bN ?_ _ | refine bd ?_ | refine bA ?_ _)); refine bF ?_ NB101_122.1 _; (with_reducible repeat (first | refine bN ?_ _ | refine bd ?_ | refine bA ?_ _)); refine bF ?_ NB101_122.1 _; (with_reducible repeat (first | refine bN ?_ _ | refine bd ?_ | refine bA ?_ _)); refine bF ?_ NB101_122.1 _; (with_reducible repeat (first | refine bN ?_ _ | refine bd ?_ | refine bA ?_ _)); exact BK101.1⟩
              have n5_ : Q0z ((((w47.setCell ⟨gb122, 0, none⟩ (.int .i64 t114)).setCell ⟨gb122, 1, none⟩ (.slice Ao50 t115.length co50)).setCell ⟨gb122, 2, none⟩ (.slice Ao51 t118.length co51)).heap[gb122]? = some (.cells #[.int .i64 t114, .slice Ao50 t115.length co50, .slice Ao51 t118.length co51] 25 (0, 0))) := ⟨by (with_reducible repeat (first | refine bN ?_ _ | refine bd ?_ | refine bA ?_ _)); refine bp (cs := #[.int .i64 t114, .slice Ao50 t115.length co50, .slice none 0 0]) ?_ 2 _ rfl; (with_reducible repeat (first | refine bN ?_ _ | refine bd ?_ | refine bA ?_ _)); refine bp (cs := #[.int .i64 t114, .slice none 0 0, .slice none 0 0]) ?_ 1 _ rfl; (with_reducible repeat (first | refine bN ?_ _ | refine bd ?_ | refine bA ?_ _)); refine bp (cs := #[.int .i64 0, .slice none 0 0, .slice none 0 0]) ?_ 0 _ rfl; (with_reducible repeat (first | refine bN ?_ _ | refine bd ?_ | refine bA ?_ _)); exact BK122.1⟩
              have n6_ : Q0z (Below w.heap.size w (((w47.setCell ⟨gb122, 0, none⟩ (.int .i64 t114)).setCell ⟨gb122, 1, none⟩ (.slice Ao50 t115.length co50)).setCell ⟨gb122, 2, none⟩ (.slice Ao51 t118.length co51))) := ⟨by repeat (first | (with_reducible first | exact HB.1 | apply ba | apply pN | apply bD | refine bS ?_ GE101.1 | refine bS ?_ GE122.1) | exact HB.1)⟩
              (try clear HO_5)
              (try clear HO112)
              (try clear HO117)
              (try clear HO120)
              (try clear BK101)
              (try clear BK122)
              (try clear HB)
              generalize (((w47.setCell ⟨gb122, 0, none⟩ (.int .i64 t114)).setCell ⟨gb122, 1, none⟩ (.slice Ao50 t115.length co50)).setCell ⟨gb122, 2, none⟩ (.slice Ao51 t118.length co51)) = w52 at n0_ n1_ n2_ n3_ n4_ n5_ n6_ ⊢
              have HO_5 := n0_
              have HO112 := n1_
              have HO117 := n2_
              have HO120 := n3_
              have BK101 := n4_
              have BK122 := n5_
              have HB := n6_
              clear n0_ n1_ n2_ n3_ n4_ n5_ n6_
              have n0_ := Q0z.mk (Kd.R_drew HO_5.1)
              have n1_ := Q0z.mk (Kd.S_drew HO112.1)
              have n2_ := Q0z.mk (Kd.S_drew HO117.1)
              have n3_ := Q0z.mk (Kd.R_drew HO120.1)
              have n4_ := Q0z.mk (bd BK101.1)
              have n5_ := Q0z.mk (bd BK122.1)
              have n6_ := Q0z.mk (bD HB.1)
              clear HO_5
              clear HO112
              clear HO117
              clear HO120
              clear BK101
              clear BK122
              clear HB
              have HO_5 := n0_
              have HO112 := n1_
              have HO117 := n2_
              have HO120 := n3_
              have BK101 := n4_
              have BK122 := n5_
              have HB := n6_
              clear n0_ n1_ n2_ n3_ n4_ n5_ n6_
              refine start_ (n := 11) (S := fun w' => w'.cell? ⟨gb101, 0, none⟩ = some (.int .i64 a0_0) ∧ w'.cell? ⟨gb101, 1, none⟩ = some (.slice A0_1 l0_1.length c0_1) ∧ w'.cell? ⟨gb101, 2, none⟩ = some (.slice A0_2 l0_2.length c0_2)) (ds := []) #[false, false, false, false, false, false, false, false, false, false, false] (by kernel_rfl) rfl rfl ⟨(bcz BK101.1 0).trans rfl, (bcz BK101.1 1).trans rfl, (bcz BK101.1 2).trans rfl⟩ (fun hHeld => ?_); refine with_tabW cl20_SubsetNets.tab9 cl20_SubsetNets.bits9 (fun HT_ HW_ => ?_)
              generalize w52.drew = w53 at HO_5 HO112 HO117 HO120 BK101 BK122 HB hHeld ⊢
              refine pure_ (i := 0) (N := some 51) (v := ?_) (a' := ?_) #[true, false, false, false, false, false, false, false, false, false, false] rfl rfl (any_of HT_.1 (by kernel_rfl)) (fun _ _ _ h => h) (Or.inl ⟨by rfl, ?_⟩) ?_ ?_
              rotate_left
              ·intro w'
               go_simp
               with_reducible rfl
              rotate_left
              ·simp only [Act.put, sA, sB, sC, i64_w, i32_w]
               rfl
              refine take_ (i := 1) (N := some 52) (v := ?_) (a' := ?_) #[true, true, false, false, false, false, false, false, false, false, false] rfl rfl (take_ofW HT_.1 HW_.1 (by kernel_rfl)) (fun _ _ _ h => h) (Or.inl ⟨by rfl, ?_⟩) hHeld ?_ ?_
              rotate_left
              ·rintro w' ⟨s0, s1, s2⟩
               go_simp
               with_reducible rfl
              rotate_left
              ·simp only [Act.put, sA, sB, sC, i64_w, i32_w]
               rfl
              refine join_ (σ := Value × Value × Value × Nat) 2 #[true, true, true, true, true, true, true, true, true, false, false] (fun s_ => [(53, s_.1), (55, .tuple #[.agg #[.int .i64 t126, s_.2.1, s_.2.2.1], .int .i64 t133]), (9, .pointer (some ⟨s_.2.2.2, 0, none⟩)), (54, .agg #[.int .i64 a0_0, s_.1]), (50, .tuple #[.agg #[.int .i64 t126, s_.2.1, s_.2.2.1], .int .i64 t133]), (56, .agg #[.int .i64 t126, s_.2.1, s_.2.2.1]), (57, .int .i64 t133)]) (fun s_ w' => (w'.cell? ⟨gb101, 0, none⟩ = some (.int .i64 a0_0) ∧ w'.cell? ⟨gb101, 1, none⟩ = some (.slice A0_1 l0_1.length c0_1) ∧ w'.cell? ⟨gb101, 2, none⟩ = some (.slice A0_2 l0_2.length c0_2)) ∧ (Kd.S (Kd.slice 82 k82) 79 w' w.heap.size (fun k_ => some k_ ≠ (s_.1 : Value).ownBlock) (.slice Ao45 t110.length co45) t110) ∧ (Kd.S (Kd.slice 3 (Kd.int .i64)) 45 w' w.heap.size (fun k_ => some k_ ≠ (s_.2.1 : Value).ownBlock ∧ some k_ ≠ (u5 : Value).ownBlock) (.slice Ao50 t115.length co50) t115) ∧ (Kd.R Kd.bool 4 w' w.heap.size (fun k_ => some k_ ≠ (s_.2.2.1 : Value).ownBlock) (.slice Ao51 t118.length co51) t118) ∧ (Kd.S (Kd.slice 82 k82) 79 w' w.heap.size (fun k_ => some k_ ≠ (.slice Ao45 t110.length co45 : Value).ownBlock) s_.1 y123) ∧ (Kd.S (Kd.slice 3 (Kd.int .i64)) 45 w' w.heap.size (fun k_ => some k_ ≠ (.slice Ao50 t115.length co50 : Value).ownBlock ∧ some k_ ≠ (u5 : Value).ownBlock) s_.2.1 t127) ∧ (Kd.R Kd.bool 4 w' w.heap.size (fun k_ => some k_ ≠ (.slice Ao51 t118.length co51 : Value).ownBlock) s_.2.2.1 t130) ∧ (Kd.R (Kd.int .i64) 3 w' w.heap.size (fun _ => True) u5 x5_1) ∧ (w'.heap[gb101]? = some (.cells #[.int .i64 a0_0, .slice A0_1 l0_1.length c0_1, .slice A0_2 l0_2.length c0_2] 25 (0, 0))) ∧ (w'.heap[gb122]? = some (.cells #[.int .i64 t114, .slice Ao50 t115.length co50, .slice Ao51 t118.length co51] 25 (0, 0))) ∧ (w'.heap[s_.2.2.2]? = some (.cells #[.int .i64 0, .slice none 0 0, .slice none 0 0] 25 (0, 0))) ∧ (w.heap.size ≤ s_.2.2.2) ∧ (w.heap.size ≤ s_.2.2.2) ∧ (gb101 ≠ s_.2.2.2) ∧ (s_.2.2.2 ≠ gb101) ∧ (gb122 ≠ s_.2.2.2) ∧ (s_.2.2.2 ≠ gb122) ∧ (Below w.heap.size w w')) ?_ ?_
              rotate_left
              ·intro hCont
               refine two_ (i := 2) (j := 8) (Ni := some 53) (Nj := some 9) #[true, true, true, false, false, false, false, false, false, false, false] #[true, true, false, false, false, false, false, false, true, false, false] rfl rfl rfl rfl (two_of HT_.1 (by kernel_rfl)) (by decide) (by decide) (fun K hK => ?_) (fun K hK => ?_)
               ·skip
                refine Kd.S_make_step (Kd.slice 82 k82) _ 79 (by rfl) (N := 53) rfl 26 _ _ rfl 2 rfl rfl Try.underlying26 (.slice none 0 0) 24 info79 rfl (by decide) (by omega) [] (ok := fun _ => True) (okp := fun _ => True) ⟨_, rfl, Kd.R_nil _ _ _ _ _⟩ (fun _ hk => hk) trivial (by omega) (by omega) (Below.refl _ _) (Nat.le_refl _) ?_
                intro v124 w54 ho55 hb hg_ hnew_
                clear hg_ hnew_
                (first | rw [← Ny123.1] at ho55 | (simp only [Int.reduceToNat] at ho55; rw [← Ny123.1] at ho55))
                have n0_ := Q0z.mk (Kd.R_below (by (with_reducible repeat (first | apply Kd.R_alloc | apply Kd.R_drewN | apply Kd.R_drew)); exact HO_5.1) hb)
                have n1_ := Q0z.mk (Kd.S_elder' (by (with_reducible repeat (first | apply Kd.S_alloc | apply Kd.S_drewN | apply Kd.S_drew)); exact HO112.1) (Kd.S_base ho55) hb)
                have n2_ := Q0z.mk (Kd.S_below (by (with_reducible repeat (first | apply Kd.S_alloc | apply Kd.S_drewN | apply Kd.S_drew)); exact HO117.1) hb)
                have n3_ := Q0z.mk (Kd.R_below (by (with_reducible repeat (first | apply Kd.R_alloc | apply Kd.R_drewN | apply Kd.R_drew)); exact HO120.1) hb)
                have n4_ := Q0z.mk (Kd.S_lower (Kd.S_new' ho55 (Kd.S_lt (by (with_reducible repeat (first | apply Kd.S_alloc | apply Kd.S_drewN | apply Kd.S_drew)); exact HO112.1))) (below_size (by repeat (first | (with_reducible first | exact HB.1 | apply ba | apply pN | apply bD | refine bS ?_ GE101.1 | refine bS ?_ GE122.1) | exact HB.1))))
                have n5_ := Q0z.mk (bbz (g := gb101) (o := .cells #[.int .i64 a0_0, .slice A0_1 l0_1.length c0_1, .slice A0_2 l0_2.length c0_2] 25 (0, 0)) (by (with_reducible repeat (first | refine bN ?_ _ | refine bd ?_ | refine bA ?_ _)); exact BK101.1) hb)
                have n6_ := Q0z.mk (bbz (g := gb122) (o := .cells #[.int .i64 t114, .slice Ao50 t115.length co50, .slice Ao51 t118.length co51] 25 (0, 0)) (by (with_reducible repeat (first | refine bN ?_ _ | refine bd ?_ | refine bA ?_ _)); exact BK122.1) hb)
                have n7_ := Q0z.mk (bsz (by repeat (first | (with_reducible first | exact HB.1 | apply ba | apply pN | apply bD | refine bS ?_ GE101.1 | refine bS ?_ GE122.1) | exact HB.1)) hb)
                clear HO_5
                clear HO112
                clear HO117
                clear HO120
                clear BK101
                clear BK122
                clear HB
                have HO_5 := n0_
                have HO112 := n1_
                have HO117 := n2_
                have HO120 := n3_
                have HO125 := n4_
                have BK101 := n5_
                have BK122 := n6_
                have HB := n7_
                clear n0_ n1_ n2_ n3_ n4_ n5_ n6_ n7_
                clear hb ho55
                obtain ⟨Ao56, co56, eo56⟩ := Kd.S_slice HO125.1
                (first | subst eo56 | (injection eo56 with f1_ f2_ f3_; have f4_ := f1_.symm; have f5_ := f3_.symm; clear f1_ f2_ f3_; subst f4_; subst f5_))
                refine hK.out _ _ ⟨(bcz BK101.1 0).trans rfl, (bcz BK101.1 1).trans rfl, (bcz BK101.1 2).trans rfl⟩ (fun hHeld => ?_)
                clear hK K
                refine norm_ (a' := ?_) ?_ ?_
                rotate_left
                ·show Act.put _ (some 53) _ = _
                 simp only [Act.put, sA, sB, sC, i64_w, i32_w]
                 rfl
                refine pure_ (i := 3) (N := some 54) (v := ?_) (a' := ?_) #[true, true, true, true, false, false, false, false, false, false, false] rfl rfl (any_of HT_.1 (by kernel_rfl)) (fun _ _ _ h => h) (Or.inl ⟨by rfl, ?_⟩) ?_ ?_
                rotate_left
                ·intro w'
                 go_simp
                 with_reducible rfl
                rotate_left
                ·simp only [Act.put, sA, sB, sC, i64_w, i32_w]
                 rfl
                refine two_ (i := 4) (j := 8) (Ni := some 55) (Nj := some 9) #[true, true, true, true, true, false, false, false, false, false, false] #[true, true, true, true, false, false, false, false, true, false, false] rfl rfl rfl rfl (two_of HT_.1 (by kernel_rfl)) (by decide) (by decide) (fun K hK => ?_) (fun K hK => ?_)
                ·skip
                 refine goes_ Try.func58 (by kernel_rfl) rfl #[.agg #[.int .i64 a0_0, .slice Ao56 y123.length co56], .int .i64 60] (by rfl) rfl rfl (by (try simp only [List.map_toArray, List.map_cons, List.map_nil]); first | done | rfl | (simp only [List.length_drop, List.length_take]; rfl)) ?_
                 with_reducible refine (subset_Of.calls k1 a0_0 _ _ y123 60 t126 t127 t130 t133 _ ?side1 ?side2 A32.1).mono ?_
                 (case side1 => repeat (first | exact (Kd.S_reads' HO125.1).2.2 | (with_reducible refine Kd.C_alloc ?_ _) | (with_reducible refine Kd.C_drewN ?_ _) | (with_reducible refine Kd.C_drew ?_)))
                 (case side2 => exact (Kd.S_reads' HO125.1).2.1)
                 rintro e w57 ⟨v128, v131, rfl, ho0, ho1, hb⟩
                 refine ⟨_, rfl, ?_⟩
                 have n0_ := Q0z.mk (Kd.R_below (by (with_reducible repeat (first | apply Kd.R_alloc | apply Kd.R_drewN | apply Kd.R_drew)); exact HO_5.1) hb)
                 have n1_ := Q0z.mk (Kd.S_below (by (with_reducible repeat (first | apply Kd.S_alloc | apply Kd.S_drewN | apply Kd.S_drew)); exact HO112.1) hb)
                 have n2_ := Q0z.mk (Kd.S_elder' (by (with_reducible repeat (first | apply Kd.S_alloc | apply Kd.S_drewN | apply Kd.S_drew)); exact HO117.1) (Kd.S_base ho0) hb)
                 have n3_ := Q0z.mk (Kd.R_elder' (by (with_reducible repeat (first | apply Kd.R_alloc | apply Kd.R_drewN | apply Kd.R_drew)); exact HO120.1) (Kd.R_base ho1) hb)
                 have n4_ := Q0z.mk (Kd.S_below (by (with_reducible repeat (first | apply Kd.S_alloc | apply Kd.S_drewN | apply Kd.S_drew)); exact HO125.1) hb)
                 have n5_ := Q0z.mk (Kd.S_lower (Kd.S_new' (Kd.S_new' ho0 (Kd.R_lt (by (with_reducible repeat (first | apply Kd.R_alloc | apply Kd.R_drewN | apply Kd.R_drew)); exact HO_5.1))) (Kd.S_lt (by (with_reducible repeat (first | apply Kd.S_alloc | apply Kd.S_drewN | apply Kd.S_drew)); exact HO117.1))) (below_size (by repeat (first | (with_reducible first | exact HB.1 | apply ba | apply pN | apply bD | refine bS ?_ GE101.1 | refine bS ?_ GE122.1) | exact HB.1))))
                 have n6_ := Q0z.mk (Kd.R_lower (Kd.R_new' ho1 (Kd.R_lt (by (with_reducible repeat (first | apply Kd.R_alloc | apply Kd.R_drewN | apply Kd.R_drew)); exact HO120.1))) (below_size (by repeat (first | (with_reducible first | exact HB.1 | apply ba | apply pN | apply bD | refine bS ?_ GE101.1 | refine bS ?_ GE122.1) | exact HB.1))))
                 have n7_ := Q0z.mk (bbz (g := gb101) (o := .cells #[.int .i64 a0_0, .slice A0_1 l0_1.length c0_1, .slice A0_2 l0_2.length c0_2] 25 (0, 0)) (by (with_reducible repeat (first | refine bN ?_ _ | refine bd ?_ | refine bA ?_ _)); exact BK101.1) hb)
                 have n8_ := Q0z.mk (bbz (g := gb122) (o := .cells #[.int .i64 t114, .slice Ao50 t115.length co50, .slice Ao51 t118.length co51] 25 (0, 0)) (by (with_reducible repeat (first | refine bN ?_ _ | refine bd ?_ | refine bA ?_ _)); exact BK122.1) hb)
                 have n9_ := Q0z.mk (bsz (by repeat (first | (with_reducible first | exact HB.1 | apply ba | apply pN | apply bD | refine bS ?_ GE101.1 | refine bS ?_ GE122.1) | exact HB.1)) hb)
                 clear HO_5
                 clear HO112
                 clear HO117
                 clear HO120
                 clear HO125
                 clear BK101
                 clear BK122
                 clear HB
                 have HO_5 := n0_
                 have HO112 := n1_
                 have HO117 := n2_
                 have HO120 := n3_
                 have HO125 := n4_
                 have HO129 := n5_
                 have HO132 := n6_
                 have BK101 := n7_
                 have BK122 := n8_
                 have HB := n9_
                 clear n0_ n1_ n2_ n3_ n4_ n5_ n6_ n7_ n8_ n9_
                 (try clear hb)
                 (try clear hb2)
                 (try clear hk)
                 (try clear hi)
                 (try clear ho0)
                 (try clear ho1)
                 refine hK.out _ _ ⟨(bcz BK101.1 0).trans rfl, (bcz BK101.1 1).trans rfl, (bcz BK101.1 2).trans rfl⟩ (fun hHeld => ?_)
                 clear hK K
                 refine norm_ (a' := ?_) ?_ ?_
                 rotate_left
                 ·show Act.put _ (some 55) _ = _
                  simp only [Act.put, sA, sB, sC, i64_w, i32_w]
                  rfl
                 refine pure_ (i := 5) (N := some 50) (v := ?_) (a' := ?_) #[true, true, true, true, true, true, false, false, false, false, false] rfl rfl (any_of HT_.1 (by kernel_rfl)) (fun _ _ _ h => h) (Or.inl ⟨by rfl, ?_⟩) ?_ ?_
                 rotate_left
                 ·intro w'
                  go_simp
                  with_reducible rfl
                 rotate_left
                 ·simp only [Act.put, sA, sB, sC, i64_w, i32_w]
                  rfl
                 refine pure_ (i := 6) (N := some 56) (v := ?_) (a' := ?_) #[true, true, true, true, true, true, true, false, false, false, false] rfl rfl (any_of HT_.1 (by kernel_rfl)) (fun _ _ _ h => h) (Or.inl ⟨by rfl, ?_⟩) ?_ ?_
                 rotate_left
                 ·intro w'
                  go_simp
                  with_reducible rfl
                 rotate_left
                 ·simp only [Act.put, sA, sB, sC, i64_w, i32_w]
                  rfl
                 refine pure_ (i := 7) (N := some 57) (v := ?_) (a' := ?_) #[true, true, true, true, true, true, true, true, false, false, false] rfl rfl (any_of HT_.1 (by kernel_rfl)) (fun _ _ _ h => h) (Or.inl ⟨by rfl, ?_⟩) ?_ ?_
                 rotate_left
                 ·intro w'
                  go_simp
                  with_reducible rfl
                 rotate_left
                 ·simp only [Act.put, sA, sB, sC, i64_w, i32_w]
                  rfl
                 refine one_ (i := 8) (N := some 9) #[true, true, true, true, true, true, true, true, true, false, false] rfl rfl (one_of HT_.1 (by kernel_rfl)) (by decide) (fun K hK => ?_)
                 refine box_step ?hg (N := 9) ?hd (cs := #[.int .i64 0, .slice none 0 0, .slice none 0 0]) (t := 25) ?hr ?_; (case hd => rfl); (case hg => rfl); (case hr => first | (go_simp; done) | (go_simp; rfl))
                 intro gb134 hg w58 hbox hb
                 have n0_ := Q0z.mk (Kd.R_below (by (with_reducible repeat (first | apply Kd.R_alloc | apply Kd.R_drewN | apply Kd.R_drew)); exact HO_5.1) hb)
                 have n1_ := Q0z.mk (Kd.S_below (by (with_reducible repeat (first | apply Kd.S_alloc | apply Kd.S_drewN | apply Kd.S_drew)); exact HO112.1) hb)
                 have n2_ := Q0z.mk (Kd.S_below (by (with_reducible repeat (first | apply Kd.S_alloc | apply Kd.S_drewN | apply Kd.S_drew)); exact HO117.1) hb)
                 have n3_ := Q0z.mk (Kd.R_below (by (with_reducible repeat (first | apply Kd.R_alloc | apply Kd.R_drewN | apply Kd.R_drew)); exact HO120.1) hb)
                 have n4_ := Q0z.mk (Kd.S_below (by (with_reducible repeat (first | apply Kd.S_alloc | apply Kd.S_drewN | apply Kd.S_drew)); exact HO125.1) hb)
                 have n5_ := Q0z.mk (Kd.S_below (by (with_reducible repeat (first | apply Kd.S_alloc | apply Kd.S_drewN | apply Kd.S_drew)); exact HO129.1) hb)
                 have n6_ := Q0z.mk (Kd.R_below (by (with_reducible repeat (first | apply Kd.R_alloc | apply Kd.R_drewN | apply Kd.R_drew)); exact HO132.1) hb)
                 have n7_ := Q0z.mk (bbz (g := gb101) (o := .cells #[.int .i64 a0_0, .slice A0_1 l0_1.length c0_1, .slice A0_2 l0_2.length c0_2] 25 (0, 0)) (by (with_reducible repeat (first | refine bN ?_ _ | refine bd ?_ | refine bA ?_ _)); exact BK101.1) hb)
                 have n8_ := Q0z.mk (bbz (g := gb122) (o := .cells #[.int .i64 t114, .slice Ao50 t115.length co50, .slice Ao51 t118.length co51] 25 (0, 0)) (by (with_reducible repeat (first | refine bN ?_ _ | refine bd ?_ | refine bA ?_ _)); exact BK122.1) hb)
                 have n9_ := Q0z.mk (bsz (by repeat (first | (with_reducible first | exact HB.1 | apply ba | apply pN | apply bD | refine bS ?_ GE101.1 | refine bS ?_ GE122.1) | exact HB.1)) hb)
                 have n10_ := Q0z.mk (hbox)
                 have n11_ := Q0z.mk ((by rw [hg]; exact (below_size (by repeat (first | (with_reducible first | exact HB.1 | apply ba | apply pN | apply bD | refine bS ?_ GE101.1 | refine bS ?_ GE122.1) | exact HB.1))) : w.heap.size ≤ gb134))
                 have n12_ := Q0z.mk ((by rw [hg]; exact (below_size (by repeat (first | (with_reducible first | exact HB.1 | apply ba | apply pN | apply bD | refine bS ?_ GE101.1 | refine bS ?_ GE122.1) | exact HB.1))) : w.heap.size ≤ gb134))
                 have n13_ := Q0z.mk ((by rw [hg]; exact Nat.ne_of_lt (blk_lt (g := gb101) (o := .cells #[.int .i64 a0_0, .slice A0_1 l0_1.length c0_1, .slice A0_2 l0_2.length c0_2] 25 (0, 0)) (by (with_reducible repeat (first | refine bN ?_ _ | refine bd ?_ | refine bA ?_ _)); exact BK101.1)) : gb101 ≠ gb134))
                 have n14_ := Q0z.mk ((by rw [hg]; exact Nat.ne_of_gt (blk_lt (g := gb101) (o := .cells #[.int .i64 a0_0, .slice A0_1 l0_1.length c0_1, .slice A0_2 l0_2.length c0_2] 25 (0, 0)) (by (with_reducible repeat (first | refine bN ?_ _ | refine bd ?_ | refine bA ?_ _)); exact BK101.1)) : gb134 ≠ gb101))
                 have n15_ := Q0z.mk ((by rw [hg]; exact Nat.ne_of_lt (blk_lt (g := gb122) (o := .cells #[.int .i64 t114, .slice Ao50 t115.length co50, .slice Ao51 t118.length co51] 25 (0, 0)) (by (with_reducible repeat (first | refine bN ?_ _ | refine bd ?_ | refine bA ?_ _)); exact BK122.1)) : gb122 ≠ gb134))
                 have n16_ := Q0z.mk ((by rw [hg]; exact Nat.ne_of_gt (blk_lt (g := gb122) (o := .cells #[.int .i64 t114, .slice Ao50 t115.length co50, .slice Ao51 t118.length co51] 25 (0, 0)) (by (with_reducible repeat (first | refine bN ?_ _ | refine bd ?_ | refine bA ?_ _)); exact BK122.1)) : gb134 ≠ gb122))
                 clear HO_5
                 clear HO112
                 clear HO117
                 clear HO120
                 clear HO125
                 clear HO129
                 clear HO132
                 clear BK101
                 clear BK122
                 clear HB
                 have HO_5 := n0_
                 have HO112 := n1_
                 have HO117 := n2_
                 have HO120 := n3_
                 have HO125 := n4_
                 have HO129 := n5_
                 have HO132 := n6_
                 have BK101 := n7_
                 have BK122 := n8_
                 have HB := n9_
                 have BK134 := n10_
                 have GW134 := n11_
                 have GE134 := n12_
                 have NB101_134 := n13_
                 have NB134_101 := n14_
                 have NB122_134 := n15_
                 have NB134_122 := n16_
                 clear n0_ n1_ n2_ n3_ n4_ n5_ n6_ n7_ n8_ n9_ n10_ n11_ n12_ n13_ n14_ n15_ n16_
                 clear hb hbox hg
                 refine hK.out _ _ ⟨(bcz BK101.1 0).trans rfl, (bcz BK101.1 1).trans rfl, (bcz BK101.1 2).trans rfl⟩ (fun hHeld => ?_)
                 clear hK K
                 refine norm_ (a' := ?_) ?_ ?_
                 rotate_left
                 ·show Act.put _ (some 9) _ = _
                  simp only [Act.put, sA, sB, sC, i64_w, i32_w]
                  rfl
                 exact norm_ (by simp only [putAll, Act.put, sA, sB, sC]) (hCont (.slice Ao56 y123.length co56, v128, v131, gb134) _ ⟨hHeld, (by (with_reducible repeat (first | apply Kd.S_alloc | apply Kd.S_drewN | apply Kd.S_drew)); exact Kd.S_mono HO112.1 (fun _ hk => hk.2)), (by (with_reducible repeat (first | apply Kd.S_alloc | apply Kd.S_drewN | apply Kd.S_drew)); exact Kd.S_mono HO117.1 (fun _ hk => ⟨hk.2, hk.1⟩)), (by (with_reducible repeat (first | apply Kd.R_alloc | apply Kd.R_drewN | apply Kd.R_drew)); exact Kd.R_mono HO120.1 (fun _ hk => hk.2)), (by (with_reducible repeat (first | apply Kd.S_alloc | apply Kd.S_drewN | apply Kd.S_drew)); exact Kd.S_mono HO125.1 (fun _ hk => hk.2)), (by (with_reducible repeat (first | apply Kd.S_alloc | apply Kd.S_drewN | apply Kd.S_drew)); exact Kd.S_mono HO129.1 (fun _ hk => ⟨hk.2, hk.1.2⟩)), (by (with_reducible repeat (first | apply Kd.R_alloc | apply Kd.R_drewN | apply Kd.R_drew)); exact Kd.R_mono HO132.1 (fun _ hk => hk.2)), (by (with_reducible repeat (first | apply Kd.R_alloc | apply Kd.R_drewN | apply Kd.R_drew)); exact HO_5.1), (by (with_reducible repeat (first | refine bN ?_ _ | refine bd ?_ | refine bA ?_ _)); exact BK101.1), (by (with_reducible repeat (first | refine bN ?_ _ | refine bd ?_ | refine bA ?_ _)); exact BK122.1), (by (with_reducible repeat (first | refine bN ?_ _ | refine bd ?_ | refine bA ?_ _)); exact BK134.1), GW134.1, GE134.1, NB101_134.1, NB134_101.1, NB122_134.1, NB134_122.1, (by repeat (first | (with_reducible first | exact HB.1 | apply ba | apply pN | apply bD | refine bS ?_ GE101.1 | refine bS ?_ GE122.1 | refine bS ?_ GE134.1) | exact HB.1))⟩)
                ·skip
                 refine box_step ?hg (N := 9) ?hd (cs := #[.int .i64 0, .slice none 0 0, .slice none 0 0]) (t := 25) ?hr ?_; (case hd => rfl); (case hg => rfl); (case hr => first | (go_simp; done) | (go_simp; rfl))
                 intro gb134 hg w57 hbox hb
                 have n0_ := Q0z.mk (Kd.R_below (by (with_reducible repeat (first | apply Kd.R_alloc | apply Kd.R_drewN | apply Kd.R_drew)); exact HO_5.1) hb)
                 have n1_ := Q0z.mk (Kd.S_below (by (with_reducible repeat (first | apply Kd.S_alloc | apply Kd.S_drewN | apply Kd.S_drew)); exact HO112.1) hb)
                 have n2_ := Q0z.mk (Kd.S_below (by (with_reducible repeat (first | apply Kd.S_alloc | apply Kd.S_drewN | apply Kd.S_drew)); exact HO117.1) hb)
                 have n3_ := Q0z.mk (Kd.R_below (by (with_reducible repeat (first | apply Kd.R_alloc | apply Kd.R_drewN | apply Kd.R_drew)); exact HO120.1) hb)
                 have n4_ := Q0z.mk (Kd.S_below (by (with_reducible repeat (first | apply Kd.S_alloc | apply Kd.S_drewN | apply Kd.S_drew)); exact HO125.1) hb)
                 have n5_ := Q0z.mk (bbz (g := gb101) (o := .cells #[.int .i64 a0_0, .slice A0_1 l0_1.length c0_1, .slice A0_2 l0_2.length c0_2] 25 (0, 0)) (by (with_reducible repeat (first | refine bN ?_ _ | refine bd ?_ | refine bA ?_ _)); exact BK101.1) hb)
                 have n6_ := Q0z.mk (bbz (g := gb122) (o := .cells #[.int .i64 t114, .slice Ao50 t115.length co50, .slice Ao51 t118.length co51] 25 (0, 0)) (by (with_reducible repeat (first | refine bN ?_ _ | refine bd ?_ | refine bA ?_ _)); exact BK122.1) hb)
                 have n7_ := Q0z.mk (bsz (by repeat (first | (with_reducible first | exact HB.1 | apply ba | apply pN | apply bD | refine bS ?_ GE101.1 | refine bS ?_ GE122.1) | exact HB.1)) hb)
                 have n8_ := Q0z.mk (hbox)
                 have n9_ := Q0z.mk ((by rw [hg]; exact (below_size (by repeat (first | (with_reducible first | exact HB.1 | apply ba | apply pN | apply bD | refine bS ?_ GE101.1 | refine bS ?_ GE122.1) | exact HB.1))) : w.heap.size ≤ gb134))
                 have n10_ := Q0z.mk ((by rw [hg]; exact (below_size (by repeat (first | (with_reducible first | exact HB.1 | apply ba | apply pN | apply bD | refine bS ?_ GE101.1 | refine bS ?_ GE122.1) | exact HB.1))) : w.heap.size ≤ gb134))
                 have n11_ := Q0z.mk ((by rw [hg]; exact Nat.ne_of_lt (blk_lt (g := gb101) (o := .cells #[.int .i64 a0_0, .slice A0_1 l0_1.length c0_1, .slice A0_2 l0_2.length c0_2] 25 (0, 0)) (by (with_reducible repeat (first | refine bN ?_ _ | refine bd ?_ | refine bA ?_ _)); exact BK101.1)) : gb101 ≠ gb134))
                 have n12_ := Q0z.mk ((by rw [hg]; exact Nat.ne_of_gt (blk_lt (g := gb101) (o := .cells #[.int .i64 a0_0, .slice A0_1 l0_1.length c0_1, .slice A0_2 l0_2.length c0_2] 25 (0, 0)) (by (with_reducible repeat (first | refine bN ?_ _ | refine bd ?_ | refine bA ?_ _)); exact BK101.1)) : gb134 ≠ gb101))
                 have n13_ := Q0z.mk ((by rw [hg]; exact Nat.ne_of_lt (blk_lt (g := gb122) (o := .cells #[.int .i64 t114, .slice Ao50 t115.length co50, .slice Ao51 t118.length co51] 25 (0, 0)) (by (with_reducible repeat (first | refine bN ?_ _ | refine bd ?_ | refine bA ?_ _)); exact BK122.1)) : gb122 ≠ gb134))
                 have n14_ := Q0z.mk ((by rw [hg]; exact Nat.ne_of_gt (blk_lt (g := gb122) (o := .cells #[.int .i64 t114, .slice Ao50 t115.length co50, .slice Ao51 t118.length co51] 25 (0, 0)) (by (with_reducible repeat (first | refine bN ?_ _ | refine bd ?_ | refine bA ?_ _)); exact BK122.1)) : gb134 ≠ gb122))
                 clear HO_5
                 clear HO112
                 clear HO117
                 clear HO120
                 clear HO125
                 clear BK101
                 clear BK122
                 clear HB
                 have HO_5 := n0_
                 have HO112 := n1_
                 have HO117 := n2_
                 have HO120 := n3_
                 have HO125 := n4_
                 have BK101 := n5_
                 have BK122 := n6_
                 have HB := n7_
                 have BK134 := n8_
                 have GW134 := n9_
                 have GE134 := n10_
                 have NB101_134 := n11_
                 have NB134_101 := n12_
                 have NB122_134 := n13_
                 have NB134_122 := n14_
                 clear n0_ n1_ n2_ n3_ n4_ n5_ n6_ n7_ n8_ n9_ n10_ n11_ n12_ n13_ n14_
                 clear hb hbox hg
                 refine hK.out _ _ ⟨(bcz BK101.1 0).trans rfl, (bcz BK101.1 1).trans rfl, (bcz BK101.1 2).trans rfl⟩ (fun hHeld => ?_)
                 clear hK K
                 refine norm_ (a' := ?_) ?_ ?_
                 rotate_left
                 ·show Act.put _ (some 9) _ = _
                  simp only [Act.put, sA, sB, sC, i64_w, i32_w]
                  rfl
                 refine one_ (i := 4) (N := some 55) #[true, true, true, true, true, false, false, false, true, false, false] rfl rfl (one_of HT_.1 (by kernel_rfl)) (by decide) (fun K hK => ?_)
                 refine goes_ Try.func58 (by kernel_rfl) rfl #[.agg #[.int .i64 a0_0, .slice Ao56 y123.length co56], .int .i64 60] (by rfl) rfl rfl (by (try simp only [List.map_toArray, List.map_cons, List.map_nil]); first | done | rfl | (simp only [List.length_drop, List.length_take]; rfl)) ?_
                 with_reducible refine (subset_Of.calls k1 a0_0 _ _ y123 60 t126 t127 t130 t133 _ ?side1 ?side2 A32.1).mono ?_
                 (case side1 => repeat (first | exact (Kd.S_reads' HO125.1).2.2 | (with_reducible refine Kd.C_alloc ?_ _) | (with_reducible refine Kd.C_drewN ?_ _) | (with_reducible refine Kd.C_drew ?_)))
                 (case side2 => exact (Kd.S_reads' HO125.1).2.1)
                 rintro e w58 ⟨v128, v131, rfl, ho0, ho1, hb⟩
                 refine ⟨_, rfl, ?_⟩
                 have n0_ := Q0z.mk (Kd.R_below (by (with_reducible repeat (first | apply Kd.R_alloc | apply Kd.R_drewN | apply Kd.R_drew)); exact HO_5.1) hb)
                 have n1_ := Q0z.mk (Kd.S_below (by (with_reducible repeat (first | apply Kd.S_alloc | apply Kd.S_drewN | apply Kd.S_drew)); exact HO112.1) hb)
                 have n2_ := Q0z.mk (Kd.S_elder' (by (with_reducible repeat (first | apply Kd.S_alloc | apply Kd.S_drewN | apply Kd.S_drew)); exact HO117.1) (Kd.S_base ho0) hb)
                 have n3_ := Q0z.mk (Kd.R_elder' (by (with_reducible repeat (first | apply Kd.R_alloc | apply Kd.R_drewN | apply Kd.R_drew)); exact HO120.1) (Kd.R_base ho1) hb)
                 have n4_ := Q0z.mk (Kd.S_below (by (with_reducible repeat (first | apply Kd.S_alloc | apply Kd.S_drewN | apply Kd.S_drew)); exact HO125.1) hb)
                 have n5_ := Q0z.mk (Kd.S_lower (Kd.S_new' (Kd.S_new' ho0 (Kd.R_lt (by (with_reducible repeat (first | apply Kd.R_alloc | apply Kd.R_drewN | apply Kd.R_drew)); exact HO_5.1))) (Kd.S_lt (by (with_reducible repeat (first | apply Kd.S_alloc | apply Kd.S_drewN | apply Kd.S_drew)); exact HO117.1))) (below_size (by repeat (first | (with_reducible first | exact HB.1 | apply ba | apply pN | apply bD | refine bS ?_ GE101.1 | refine bS ?_ GE122.1 | refine bS ?_ GE134.1) | exact HB.1))))
                 have n6_ := Q0z.mk (Kd.R_lower (Kd.R_new' ho1 (Kd.R_lt (by (with_reducible repeat (first | apply Kd.R_alloc | apply Kd.R_drewN | apply Kd.R_drew)); exact HO120.1))) (below_size (by repeat (first | (with_reducible first | exact HB.1 | apply ba | apply pN | apply bD | refine bS ?_ GE101.1 | refine bS ?_ GE122.1 | refine bS ?_ GE134.1) | exact HB.1))))
                 have n7_ := Q0z.mk (bbz (g := gb101) (o := .cells #[.int .i64 a0_0, .slice A0_1 l0_1.length c0_1, .slice A0_2 l0_2.length c0_2] 25 (0, 0)) (by (with_reducible repeat (first | refine bN ?_ _ | refine bd ?_ | refine bA ?_ _)); exact BK101.1) hb)
                 have n8_ := Q0z.mk (bbz (g := gb122) (o := .cells #[.int .i64 t114, .slice Ao50 t115.length co50, .slice Ao51 t118.length co51] 25 (0, 0)) (by (with_reducible repeat (first | refine bN ?_ _ | refine bd ?_ | refine bA ?_ _)); exact BK122.1) hb)
                 have n9_ := Q0z.mk (bbz (g := gb134) (o := .cells #[.int .i64 0, .slice none 0 0, .slice none 0 0] 25 (0, 0)) (by (with_reducible repeat (first | refine bN ?_ _ | refine bd ?_ | refine bA ?_ _)); exact BK134.1) hb)
                 have n10_ := Q0z.mk (bsz (by repeat (first | (with_reducible first | exact HB.1 | apply ba | apply pN | apply bD | refine bS ?_ GE101.1 | refine bS ?_ GE122.1 | refine bS ?_ GE134.1) | exact HB.1)) hb)
                 clear HO_5
                 clear HO112
                 clear HO117
                 clear HO120
                 clear HO125
                 clear BK101
                 clear BK122
                 clear BK134
                 clear HB
                 have HO_5 := n0_
                 have HO112 := n1_
                 have HO117 := n2_
                 have HO120 := n3_
                 have HO125 := n4_
                 have HO129 := n5_
                 have HO132 := n6_
                 have BK101 := n7_
                 have BK122 := n8_
                 have BK134 := n9_
                 have HB := n10_
                 clear n0_ n1_ n2_ n3_ n4_ n5_ n6_ n7_ n8_ n9_ n10_
                 (try clear hb)
                 (try clear hb2)
                 (try clear hk)
                 (try clear hi)
                 (try clear ho0)
                 (try clear ho1)
                 refine hK.out _ _ ⟨(bcz BK101.1 0).trans rfl, (bcz BK101.1 1).trans rfl, (bcz BK101.1 2).trans rfl⟩ (fun hHeld => ?_)
                 clear hK K
                 refine norm_ (a' := ?_) ?_ ?_
                 rotate_left
                 ·show Act.put _ (some 55) _ = _
                  simp only [Act.put, sA, sB, sC, i64_w, i32_w]
                  rfl
                 refine pure_ (i := 5) (N := some 50) (v := ?_) (a' := ?_) #[true, true, true, true, true, true, false, false, true, false, false] rfl rfl (any_of HT_.1 (by kernel_rfl)) (fun _ _ _ h => h) (Or.inl ⟨by rfl, ?_⟩) ?_ ?_
                 rotate_left
                 ·intro w'
                  go_simp
                  with_reducible rfl
                 rotate_left
                 ·simp only [Act.put, sA, sB, sC, i64_w, i32_w]
                  rfl
                 refine pure_ (i := 6) (N := some 56) (v := ?_) (a' := ?_) #[true, true, true, true, true, true, true, false, true, false, false] rfl rfl (any_of HT_.1 (by kernel_rfl)) (fun _ _ _ h => h) (Or.inl ⟨by rfl, ?_⟩) ?_ ?_
                 rotate_left
                 ·intro w'
                  go_simp
                  with_reducible rfl
                 rotate_left
                 ·simp only [Act.put, sA, sB, sC, i64_w, i32_w]
                  rfl
                 refine pure_ (i := 7) (N := some 57) (v := ?_) (a' := ?_) #[true, true, true, true, true, true, true, true, true, false, false] rfl rfl (any_of HT_.1 (by kernel_rfl)) (fun _ _ _ h => h) (Or.inl ⟨by rfl, ?_⟩) ?_ ?_
                 rotate_left
                 ·intro w'
                  go_simp
                  with_reducible rfl
                 rotate_left
                 ·simp only [Act.put, sA, sB, sC, i64_w, i32_w]
                  rfl
                 exact norm_ (by simp only [putAll, Act.put, sA, sB, sC]) (hCont (.slice Ao56 y123.length co56, v128, v131, gb134) _ ⟨hHeld, (by (with_reducible repeat (first | apply Kd.S_alloc | apply Kd.S_drewN | apply Kd.S_drew)); exact Kd.S_mono HO112.1 (fun _ hk => hk.2)), (by (with_reducible repeat (first | apply Kd.S_alloc | apply Kd.S_drewN | apply Kd.S_drew)); exact Kd.S_mono HO117.1 (fun _ hk => ⟨hk.2, hk.1⟩)), (by (with_reducible repeat (first | apply Kd.R_alloc | apply Kd.R_drewN | apply Kd.R_drew)); exact Kd.R_mono HO120.1 (fun _ hk => hk.2)), (by (with_reducible repeat (first | apply Kd.S_alloc | apply Kd.S_drewN | apply Kd.S_drew)); exact Kd.S_mono HO125.1 (fun _ hk => hk.2)), (by (with_reducible repeat (first | apply Kd.S_alloc | apply Kd.S_drewN | apply Kd.S_drew)); exact Kd.S_mono HO129.1 (fun _ hk => ⟨hk.2, hk.1.2⟩)), (by (with_reducible repeat (first | apply Kd.R_alloc | apply Kd.R_drewN | apply Kd.R_drew)); exact Kd.R_mono HO132.1 (fun _ hk => hk.2)), (by (with_reducible repeat (first | apply Kd.R_alloc | apply Kd.R_drewN | apply Kd.R_drew)); exact HO_5.1), (by (with_reducible repeat (first | refine bN ?_ _ | refine bd ?_ | refine bA ?_ _)); exact BK101.1), (by (with_reducible repeat (first | refine bN ?_ _ | refine bd ?_ | refine bA ?_ _)); exact BK122.1), (by (with_reducible repeat (first | refine bN ?_ _ | refine bd ?_ | refine bA ?_ _)); exact BK134.1), GW134.1, GE134.1, NB101_134.1, NB134_101.1, NB122_134.1, NB134_122.1, (by repeat (first | (with_reducible first | exact HB.1 | apply ba | apply pN | apply bD | refine bS ?_ GE101.1 | refine bS ?_ GE122.1 | refine bS ?_ GE134.1) | exact HB.1))⟩)
               ·skip
                refine box_step ?hg (N := 9) ?hd (cs := #[.int .i64 0, .slice none 0 0, .slice none 0 0]) (t := 25) ?hr ?_; (case hd => rfl); (case hg => rfl); (case hr => first | (go_simp; done) | (go_simp; rfl))
                intro gb134 hg w54 hbox hb
                have n0_ := Q0z.mk (Kd.R_below (by (with_reducible repeat (first | apply Kd.R_alloc | apply Kd.R_drewN | apply Kd.R_drew)); exact HO_5.1) hb)
                have n1_ := Q0z.mk (Kd.S_below (by (with_reducible repeat (first | apply Kd.S_alloc | apply Kd.S_drewN | apply Kd.S_drew)); exact HO112.1) hb)
                have n2_ := Q0z.mk (Kd.S_below (by (with_reducible repeat (first | apply Kd.S_alloc | apply Kd.S_drewN | apply Kd.S_drew)); exact HO117.1) hb)
                have n3_ := Q0z.mk (Kd.R_below (by (with_reducible repeat (first | apply Kd.R_alloc | apply Kd.R_drewN | apply Kd.R_drew)); exact HO120.1) hb)
                have n4_ := Q0z.mk (bbz (g := gb101) (o := .cells #[.int .i64 a0_0, .slice A0_1 l0_1.length c0_1, .slice A0_2 l0_2.length c0_2] 25 (0, 0)) (by (with_reducible repeat (first | refine bN ?_ _ | refine bd ?_ | refine bA ?_ _)); exact BK101.1) hb)
                have n5_ := Q0z.mk (bbz (g := gb122) (o := .cells #[.int .i64 t114, .slice Ao50 t115.length co50, .slice Ao51 t118.length co51] 25 (0, 0)) (by (with_reducible repeat (first | refine bN ?_ _ | refine bd ?_ | refine bA ?_ _)); exact BK122.1) hb)
                have n6_ := Q0z.mk (bsz (by repeat (first | (with_reducible first | exact HB.1 | apply ba | apply pN | apply bD | refine bS ?_ GE101.1 | refine bS ?_ GE122.1) | exact HB.1)) hb)
                have n7_ := Q0z.mk (hbox)
                have n8_ := Q0z.mk ((by rw [hg]; exact (below_size (by repeat (first | (with_reducible first | exact HB.1 | apply ba | apply pN | apply bD | refine bS ?_ GE101.1 | refine bS ?_ GE122.1) | exact HB.1))) : w.heap.size ≤ gb134))
                have n9_ := Q0z.mk ((by rw [hg]; exact (below_size (by repeat (first | (with_reducible first | exact HB.1 | apply ba | apply pN | apply bD | refine bS ?_ GE101.1 | refine bS ?_ GE122.1) | exact HB.1))) : w.heap.size ≤ gb134))
                have n10_ := Q0z.mk ((by rw [hg]; exact Nat.ne_of_lt (blk_lt (g := gb101) (o := .cells #[.int .i64 a0_0, .slice A0_1 l0_1.length c0_1, .slice A0_2 l0_2.length c0_2] 25 (0, 0)) (by (with_reducible repeat (first | refine bN ?_ _ | refine bd ?_ | refine bA ?_ _)); exact BK101.1)) : gb101 ≠ gb134))
                have n11_ := Q0z.mk ((by rw [hg]; exact Nat.ne_of_gt (blk_lt (g := gb101) (o := .cells #[.int .i64 a0_0, .slice A0_1 l0_1.length c0_1, .slice A0_2 l0_2.length c0_2] 25 (0, 0)) (by (with_reducible repeat (first | refine bN ?_ _ | refine bd ?_ | refine bA ?_ _)); exact BK101.1)) : gb134 ≠ gb101))
                have n12_ := Q0z.mk ((by rw [hg]; exact Nat.ne_of_lt (blk_lt (g := gb122) (o := .cells #[.int .i64 t114, .slice Ao50 t115.length co50, .slice Ao51 t118.length co51] 25 (0, 0)) (by (with_reducible repeat (first | refine bN ?_ _ | refine bd ?_ | refine bA ?_ _)); exact BK122.1)) : gb122 ≠ gb134))
                have n13_ := Q0z.mk ((by rw [hg]; exact Nat.ne_of_gt (blk_lt (g := gb122) (o := .cells #[.int .i64 t114, .slice Ao50 t115.length co50, .slice Ao51 t118.length co51] 25 (0, 0)) (by (with_reducible repeat (first | refine bN ?_ _ | refine bd ?_ | refine bA ?_ _)); exact BK122.1)) : gb134 ≠ gb122))
                clear HO_5
                clear HO112
                clear HO117
                clear HO120
                clear BK101
                clear BK122
                clear HB
                have HO_5 := n0_
                have HO112 := n1_
                have HO117 := n2_
                have HO120 := n3_
                have BK101 := n4_
                have BK122 := n5_
                have HB := n6_
                have BK134 := n7_
                have GW134 := n8_
                have GE134 := n9_
                have NB101_134 := n10_
                have NB134_101 := n11_
                have NB122_134 := n12_
                have NB134_122 := n13_
                clear n0_ n1_ n2_ n3_ n4_ n5_ n6_ n7_ n8_ n9_ n10_ n11_ n12_ n13_
                clear hb hbox hg
                refine hK.out _ _ ⟨(bcz BK101.1 0).trans rfl, (bcz BK101.1 1).trans rfl, (bcz BK101.1 2).trans rfl⟩ (fun hHeld => ?_)
                clear hK K
                refine norm_ (a' := ?_) ?_ ?_
                rotate_left
                ·show Act.put _ (some 9) _ = _
                 simp only [Act.put, sA, sB, sC, i64_w, i32_w]
                 rfl
                refine one_ (i := 2) (N := some 53) #[true, true, true, false, false, false, false, false, true, false, false] rfl rfl (one_of HT_.1 (by kernel_rfl)) (by decide) (fun K hK => ?_)
                refine Kd.S_make_step (Kd.slice 82 k82) _ 79 (by rfl) (N := 53) rfl 26 _ _ rfl 2 rfl rfl Try.underlying26 (.slice none 0 0) 24 info79 rfl (by decide) (by omega) [] (ok := fun _ => True) (okp := fun _ => True) ⟨_, rfl, Kd.R_nil _ _ _ _ _⟩ (fun _ hk => hk) trivial (by omega) (by omega) (Below.refl _ _) (Nat.le_refl _) ?_
                intro v124 w55 ho56 hb hg_ hnew_
                clear hg_ hnew_
                (first | rw [← Ny123.1] at ho56 | (simp only [Int.reduceToNat] at ho56; rw [← Ny123.1] at ho56))
                have n0_ := Q0z.mk (Kd.R_below (by (with_reducible repeat (first | apply Kd.R_alloc | apply Kd.R_drewN | apply Kd.R_drew)); exact HO_5.1) hb)
                have n1_ := Q0z.mk (Kd.S_elder' (by (with_reducible repeat (first | apply Kd.S_alloc | apply Kd.S_drewN | apply Kd.S_drew)); exact HO112.1) (Kd.S_base ho56) hb)
                have n2_ := Q0z.mk (Kd.S_below (by (with_reducible repeat (first | apply Kd.S_alloc | apply Kd.S_drewN | apply Kd.S_drew)); exact HO117.1) hb)
                have n3_ := Q0z.mk (Kd.R_below (by (with_reducible repeat (first | apply Kd.R_alloc | apply Kd.R_drewN | apply Kd.R_drew)); exact HO120.1) hb)
                have n4_ := Q0z.mk (Kd.S_lower (Kd.S_new' ho56 (Kd.S_lt (by (with_reducible repeat (first | apply Kd.S_alloc | apply Kd.S_drewN | apply Kd.S_drew)); exact HO112.1))) (below_size (by repeat (first | (with_reducible first | exact HB.1 | apply ba | apply pN | apply bD | refine bS ?_ GE101.1 | refine bS ?_ GE122.1 | refine bS ?_ GE134.1) | exact HB.1))))
                have n5_ := Q0z.mk (bbz (g := gb101) (o := .cells #[.int .i64 a0_0, .slice A0_1 l0_1.length c0_1, .slice A0_2 l0_2.length c0_2] 25 (0, 0)) (by (with_reducible repeat (first | refine bN ?_ _ | refine bd ?_ | refine bA ?_ _)); exact BK101.1) hb)
                have n6_ := Q0z.mk (bbz (g := gb122) (o := .cells #[.int .i64 t114, .slice Ao50 t115.length co50, .slice Ao51 t118.length co51] 25 (0, 0)) (by (with_reducible repeat (first | refine bN ?_ _ | refine bd ?_ | refine bA ?_ _)); exact BK122.1) hb)
                have n7_ := Q0z.mk (bbz (g := gb134) (o := .cells #[.int .i64 0, .slice none 0 0, .slice none 0 0] 25 (0, 0)) (by (with_reducible repeat (first | refine bN ?_ _ | refine bd ?_ | refine bA ?_ _)); exact BK134.1) hb)
                have n8_ := Q0z.mk (bsz (by repeat (first | (with_reducible first | exact HB.1 | apply ba | apply pN | apply bD | refine bS ?_ GE101.1 | refine bS ?_ GE122.1 | refine bS ?_ GE134.1) | exact HB.1)) hb)
                clear HO_5
                clear HO112
                clear HO117
                clear HO120
                clear BK101
                clear BK122
                clear BK134
                clear HB
                have HO_5 := n0_
                have HO112 := n1_
                have HO117 := n2_
                have HO120 := n3_
                have HO125 := n4_
                have BK101 := n5_
                have BK122 := n6_
                have BK134 := n7_
                have HB := n8_
                clear n0_ n1_ n2_ n3_ n4_ n5_ n6_ n7_ n8_
                clear hb ho56
                obtain ⟨Ao57, co57, eo57⟩ := Kd.S_slice HO125.1
                (first | subst eo57 | (injection eo57 with f1_ f2_ f3_; have f4_ := f1_.symm; have f5_ := f3_.symm; clear f1_ f2_ f3_; subst f4_; subst f5_))
                refine hK.out _ _ ⟨(bcz BK101.1 0).trans rfl, (bcz BK101.1 1).trans rfl, (bcz BK101.1 2).trans rfl⟩ (fun hHeld => ?_)
                clear hK K
                refine norm_ (a' := ?_) ?_ ?_
                rotate_left
                ·show Act.put _ (some 53) _ = _
                 simp only [Act.put, sA, sB, sC, i64_w, i32_w]
                 rfl
                refine pure_ (i := 3) (N := some 54) (v := ?_) (a' := ?_) #[true, true, true, true, false, false, false, false, true, false, false] rfl rfl (any_of HT_.1 (by kernel_rfl)) (fun _ _ _ h => h) (Or.inl ⟨by rfl, ?_⟩) ?_ ?_
                rotate_left
                ·intro w'
                 go_simp
                 with_reducible rfl
                rotate_left
                ·simp only [Act.put, sA, sB, sC, i64_w, i32_w]
                 rfl
                refine one_ (i := 4) (N := some 55) #[true, true, true, true, true, false, false, false, true, false, false] rfl rfl (one_of HT_.1 (by kernel_rfl)) (by decide) (fun K hK => ?_)
                refine goes_ Try.func58 (by kernel_rfl) rfl #[.agg #[.int .i64 a0_0, .slice Ao57 y123.length co57], .int .i64 60] (by rfl) rfl rfl (by (try simp only [List.map_toArray, List.map_cons, List.map_nil]); first | done | rfl | (simp only [List.length_drop, List.length_take]; rfl)) ?_
                with_reducible refine (subset_Of.calls k1 a0_0 _ _ y123 60 t126 t127 t130 t133 _ ?side1 ?side2 A32.1).mono ?_
                (case side1 => repeat (first | exact (Kd.S_reads' HO125.1).2.2 | (with_reducible refine Kd.C_alloc ?_ _) | (with_reducible refine Kd.C_drewN ?_ _) | (with_reducible refine Kd.C_drew ?_)))
                (case side2 => exact (Kd.S_reads' HO125.1).2.1)
                rintro e w58 ⟨v128, v131, rfl, ho0, ho1, hb⟩
                refine ⟨_, rfl, ?_⟩
                have n0_ := Q0z.mk (Kd.R_below (by (with_reducible repeat (first | apply Kd.R_alloc | apply Kd.R_drewN | apply Kd.R_drew)); exact HO_5.1) hb)
                have n1_ := Q0z.mk (Kd.S_below (by (with_reducible repeat (first | apply Kd.S_alloc | apply Kd.S_drewN | apply Kd.S_drew)); exact HO112.1) hb)
                have n2_ := Q0z.mk (Kd.S_elder' (by (with_reducible repeat (first | apply Kd.S_alloc | apply Kd.S_drewN | apply Kd.S_drew)); exact HO117.1) (Kd.S_base ho0) hb)
                have n3_ := Q0z.mk (Kd.R_elder' (by (with_reducible repeat (first | apply Kd.R_alloc | apply Kd.R_drewN | apply Kd.R_drew)); exact HO120.1) (Kd.R_base ho1) hb)
                have n4_ := Q0z.mk (Kd.S_below (by (with_reducible repeat (first | apply Kd.S_alloc | apply Kd.S_drewN | apply Kd.S_drew)); exact HO125.1) hb)
                have n5_ := Q0z.mk (Kd.S_lower (Kd.S_new' (Kd.S_new' ho0 (Kd.R_lt (by (with_reducible repeat (first | apply Kd.R_alloc | apply Kd.R_drewN | apply Kd.R_drew)); exact HO_5.1))) (Kd.S_lt (by (with_reducible repeat (first | apply Kd.S_alloc | apply Kd.S_drewN | apply Kd.S_drew)); exact HO117.1))) (below_size (by repeat (first | (with_reducible first | exact HB.1 | apply ba | apply pN | apply bD | refine bS ?_ GE101.1 | refine bS ?_ GE122.1 | refine bS ?_ GE134.1) | exact HB.1))))
                have n6_ := Q0z.mk (Kd.R_lower (Kd.R_new' ho1 (Kd.R_lt (by (with_reducible repeat (first | apply Kd.R_alloc | apply Kd.R_drewN | apply Kd.R_drew)); exact HO120.1))) (below_size (by repeat (first | (with_reducible first | exact HB.1 | apply ba | apply pN | apply bD | refine bS ?_ GE101.1 | refine bS ?_ GE122.1 | refine bS ?_ GE134.1) | exact HB.1))))
                have n7_ := Q0z.mk (bbz (g := gb101) (o := .cells #[.int .i64 a0_0, .slice A0_1 l0_1.length c0_1, .slice A0_2 l0_2.length c0_2] 25 (0, 0)) (by (with_reducible repeat (first | refine bN ?_ _ | refine bd ?_ | refine bA ?_ _)); exact BK101.1) hb)
                have n8_ := Q0z.mk (bbz (g := gb122) (o := .cells #[.int .i64 t114, .slice Ao50 t115.length co50, .slice Ao51 t118.length co51] 25 (0, 0)) (by (with_reducible repeat (first | refine bN ?_ _ | refine bd ?_ | refine bA ?_ _)); exact BK122.1) hb)
                have n9_ := Q0z.mk (bbz (g := gb134) (o := .cells #[.int .i64 0, .slice none 0 0, .slice none 0 0] 25 (0, 0)) (by (with_reducible repeat (first | refine bN ?_ _ | refine bd ?_ | refine bA ?_ _)); exact BK134.1) hb)
                have n10_ := Q0z.mk (bsz (by repeat (first | (with_reducible first | exact HB.1 | apply ba | apply pN | apply bD | refine bS ?_ GE101.1 | refine bS ?_ GE122.1 | refine bS ?_ GE134.1) | exact HB.1)) hb)
                clear HO_5
                clear HO112
                clear HO117
                clear HO120
                clear HO125
                clear BK101
                clear BK122
                clear BK134
                clear HB
                have HO_5 := n0_
                have HO112 := n1_
                have HO117 := n2_
                have HO120 := n3_
                have HO125 := n4_
                have HO129 := n5_
                have HO132 := n6_
                have BK101 := n7_
                have BK122 := n8_
                have BK134 := n9_
                have HB := n10_
                clear n0_ n1_ n2_ n3_ n4_ n5_ n6_ n7_ n8_ n9_ n10_
                (try clear hb)
                (try clear hb2)
                (try clear hk)
                (try clear hi)
                (try clear ho0)
                (try clear ho1)
                refine hK.out _ _ ⟨(bcz BK101.1 0).trans rfl, (bcz BK101.1 1).trans rfl, (bcz BK101.1 2).trans rfl⟩ (fun hHeld => ?_)
                clear hK K
                refine norm_ (a' := ?_) ?_ ?_
                rotate_left
                ·show Act.put _ (some 55) _ = _
                 simp only [Act.put, sA, sB, sC, i64_w, i32_w]
                 rfl
                refine pure_ (i := 5) (N := some 50) (v := ?_) (a' := ?_) #[true, true, true, true, true, true, false, false, true, false, false] rfl rfl (any_of HT_.1 (by kernel_rfl)) (fun _ _ _ h => h) (Or.inl ⟨by rfl, ?_⟩) ?_ ?_
                rotate_left
                ·intro w'
                 go_simp
                 with_reducible rfl
                rotate_left
                ·simp only [Act.put, sA, sB, sC, i64_w, i32_w]
                 rfl
                refine pure_ (i := 6) (N := some 56) (v := ?_) (a' := ?_) #[true, true, true, true, true, true, true, false, true, false, false] rfl rfl (any_of HT_.1 (by kernel_rfl)) (fun _ _ _ h => h) (Or.inl ⟨by rfl, ?_⟩) ?_ ?_
                rotate_left
                ·intro w'
                 go_simp
                 with_reducible rfl
                rotate_left
                ·simp only [Act.put, sA, sB, sC, i64_w, i32_w]
                 rfl
                refine pure_ (i := 7) (N := some 57) (v := ?_) (a' := ?_) #[true, true, true, true, true, true, true, true, true, false, false] rfl rfl (any_of HT_.1 (by kernel_rfl)) (fun _ _ _ h => h) (Or.inl ⟨by rfl, ?_⟩) ?_ ?_
                rotate_left
                ·intro w'
                 go_simp
                 with_reducible rfl
                rotate_left
                ·simp only [Act.put, sA, sB, sC, i64_w, i32_w]
                 rfl
                exact norm_ (by simp only [putAll, Act.put, sA, sB, sC]) (hCont (.slice Ao57 y123.length co57, v128, v131, gb134) _ ⟨hHeld, (by (with_reducible repeat (first | apply Kd.S_alloc | apply Kd.S_drewN | apply Kd.S_drew)); exact Kd.S_mono HO112.1 (fun _ hk => hk.2)), (by (with_reducible repeat (first | apply Kd.S_alloc | apply Kd.S_drewN | apply Kd.S_drew)); exact Kd.S_mono HO117.1 (fun _ hk => ⟨hk.2, hk.1⟩)), (by (with_reducible repeat (first | apply Kd.R_alloc | apply Kd.R_drewN | apply Kd.R_drew)); exact Kd.R_mono HO120.1 (fun _ hk => hk.2)), (by (with_reducible repeat (first | apply Kd.S_alloc | apply Kd.S_drewN | apply Kd.S_drew)); exact Kd.S_mono HO125.1 (fun _ hk => hk.2)), (by (with_reducible repeat (first | apply Kd.S_alloc | apply Kd.S_drewN | apply Kd.S_drew)); exact Kd.S_mono HO129.1 (fun _ hk => ⟨hk.2, hk.1.2⟩)), (by (with_reducible repeat (first | apply Kd.R_alloc | apply Kd.R_drewN | apply Kd.R_drew)); exact Kd.R_mono HO132.1 (fun _ hk => hk.2)), (by (with_reducible repeat (first | apply Kd.R_alloc | apply Kd.R_drewN | apply Kd.R_drew)); exact HO_5.1), (by (with_reducible repeat (first | refine bN ?_ _ | refine bd ?_ | refine bA ?_ _)); exact BK101.1), (by (with_reducible repeat (first | refine bN ?_ _ | refine bd ?_ | refine bA ?_ _)); exact BK122.1), (by (with_reducible repeat (first | refine bN ?_ _ | refine bd ?_ | refine bA ?_ _)); exact BK134.1), GW134.1, GE134.1, NB101_134.1, NB134_101.1, NB122_134.1, NB134_122.1, (by repeat (first | (with_reducible first | exact HB.1 | apply ba | apply pN | apply bD | refine bS ?_ GE101.1 | refine bS ?_ GE122.1 | refine bS ?_ GE134.1) | exact HB.1))⟩)
              rintro ⟨v124, v128, v131, gb134⟩ w59 ⟨hS_, h0_, h1_, h2_, h3_, h4_, h5_, h6_, h7_, h8_, h9_, h10_, h11_, h12_, h13_, h14_, h15_, h16_⟩
              have n0_ : Q0z (Kd.S (Kd.slice 82 k82) 79 w59 w.heap.size (fun k_ => some k_ ≠ (v124 : Value).ownBlock) (.slice Ao45 t110.length co45) t110) := ⟨h0_⟩
              have n1_ : Q0z (Kd.S (Kd.slice 3 (Kd.int .i64)) 45 w59 w.heap.size (fun k_ => some k_ ≠ (v128 : Value).ownBlock ∧ some k_ ≠ (u5 : Value).ownBlock) (.slice Ao50 t115.length co50) t115) := ⟨h1_⟩
              have n2_ : Q0z (Kd.R Kd.bool 4 w59 w.heap.size (fun k_ => some k_ ≠ (v131 : Value).ownBlock) (.slice Ao51 t118.length co51) t118) := ⟨h2_⟩
              have n3_ : Q0z (Kd.S (Kd.slice 82 k82) 79 w59 w.heap.size (fun k_ => some k_ ≠ (.slice Ao45 t110.length co45 : Value).ownBlock) v124 y123) := ⟨h3_⟩
              have n4_ : Q0z (Kd.S (Kd.slice 3 (Kd.int .i64)) 45 w59 w.heap.size (fun k_ => some k_ ≠ (.slice Ao50 t115.length co50 : Value).ownBlock ∧ some k_ ≠ (u5 : Value).ownBlock) v128 t127) := ⟨h4_⟩
              have n5_ : Q0z (Kd.R Kd.bool 4 w59 w.heap.size (fun k_ => some k_ ≠ (.slice Ao51 t118.length co51 : Value).ownBlock) v131 t130) := ⟨h5_⟩
              have n6_ : Q0z (Kd.R (Kd.int .i64) 3 w59 w.heap.size (fun _ => True) u5 x5_1) := ⟨h6_⟩
              have n7_ : Q0z (w59.heap[gb101]? = some (.cells #[.int .i64 a0_0, .slice A0_1 l0_1.length c0_1, .slice A0_2 l0_2.length c0_2] 25 (0, 0))) := ⟨h7_⟩
              have n8_ : Q0z (w59.heap[gb122]? = some (.cells #[.int .i64 t114, .slice Ao50 t115.length co50, .slice Ao51 t118.length co51] 25 (0, 0))) := ⟨h8_⟩
              have n9_ : Q0z (w59.heap[gb134]? = some (.cells #[.int .i64 0, .slice none 0 0, .slice none 0 0] 25 (0, 0))) := ⟨h9_⟩
              have n10_ : Q0z (w.heap.size ≤ gb134) := ⟨h10_⟩
              have n11_ : Q0z (w.heap.size ≤ gb134) := ⟨h11_⟩
              have n12_ : Q0z (gb101 ≠ gb134) := ⟨h12_⟩
              have n13_ : Q0z (gb134 ≠ gb101) := ⟨h13_⟩
              have n14_ : Q0z (gb122 ≠ gb134) := ⟨h14_⟩
              have n15_ : Q0z (gb134 ≠ gb122) := ⟨h15_⟩
              have n16_ : Q0z (Below w.heap.size w w59) := ⟨h16_⟩
              clear HO_5
              clear HO112
              clear HO117
              clear HO120
              clear BK101
              clear BK122
              clear HB
              clear h0_ h1_ h2_ h3_ h4_ h5_ h6_ h7_ h8_ h9_ h10_ h11_ h12_ h13_ h14_ h15_ h16_
              have HO112 := n0_
              have HO117 := n1_
              have HO120 := n2_
              have HO125 := n3_
              have HO129 := n4_
              have HO132 := n5_
              have HO_5 := n6_
              have BK101 := n7_
              have BK122 := n8_
              have BK134 := n9_
              have GW134 := n10_
              have GE134 := n11_
              have NB101_134 := n12_
              have NB134_101 := n13_
              have NB122_134 := n14_
              have NB134_122 := n15_
              have HB := n16_
              clear n0_ n1_ n2_ n3_ n4_ n5_ n6_ n7_ n8_ n9_ n10_ n11_ n12_ n13_ n14_ n15_ n16_
              have hHeld : w59.cell? ⟨gb101, 0, none⟩ = some (.int .i64 a0_0) ∧ w59.cell? ⟨gb101, 1, none⟩ = some (.slice A0_1 l0_1.length c0_1) ∧ w59.cell? ⟨gb101, 2, none⟩ = some (.slice A0_2 l0_2.length c0_2) := hS_
              obtain ⟨Ao60, co60, eo60⟩ := Kd.S_slice HO125.1
              (first | subst eo60 | (injection eo60 with f1_ f2_ f3_; have f4_ := f1_.symm; have f5_ := f3_.symm; clear f1_ f2_ f3_; subst f4_; subst f5_))
              obtain ⟨Ao62, co62, eo62⟩ := Kd.S_slice HO129.1
              (first | subst eo62 | (injection eo62 with f1_ f2_ f3_; have f4_ := f1_.symm; have f5_ := f3_.symm; clear f1_ f2_ f3_; subst f4_; subst f5_))
              obtain ⟨Ao64, co64, eo64⟩ := Kd.R_slice HO132.1
              (first | subst eo64 | (injection eo64 with f1_ f2_ f3_; have f4_ := f1_.symm; have f5_ := f3_.symm; clear f1_ f2_ f3_; subst f4_; subst f5_))
              refine norm_ (a' := ?_) ?_ ?_
              rotate_left
              ·simp only [putAll, Act.put, sA, sB, sC]
               rfl
              refine one_ (i := 9) (N := none) #[true, true, true, true, true, true, true, true, true, true, false] rfl rfl (one_of HT_.1 (by kernel_rfl)) (by decide) (fun K hK => ?_)
              have hs61 : w59.cell? ⟨gb134, 0, none⟩ = some (.int .i64 0) := (bcz BK134.1 0).trans rfl
              have hfs61 := bf BK134.1 0
              have hns61_0 := NB101_134.1
              have hns61_1 := NB122_134.1
              have hms61_0 := NB134_101.1
              have hms61_1 := NB134_122.1
              have hs63 : w59.cell? ⟨gb134, 1, none⟩ = some (.slice none 0 0) := (bcz BK134.1 1).trans rfl
              have hfs63 := bf BK134.1 1
              have hns63_0 := NB101_134.1
              have hns63_1 := NB122_134.1
              have hms63_0 := NB134_101.1
              have hms63_1 := NB134_122.1
              have hs65 : w59.cell? ⟨gb134, 2, none⟩ = some (.slice none 0 0) := (bcz BK134.1 2).trans rfl
              have hfs65 := bf BK134.1 2
              have hns65_0 := NB101_134.1
              have hns65_1 := NB122_134.1
              have hms65_0 := NB134_101.1
              have hms65_1 := NB134_122.1
              refine skip_ (w1 := ?_) (by rfl) rfl ?_ ?_
              rotate_left
              ·go_simp
               rfl
              refine hK.out _ _ ⟨((cell_far (p := ⟨gb134, _, none⟩) NB101_134.1 _).trans (((cell_far (p := ⟨gb134, _, none⟩) NB101_134.1 _).trans (((cell_far (p := ⟨gb134, _, none⟩) NB101_134.1 _).trans (hHeld.1)))))), ((cell_far (p := ⟨gb134, _, none⟩) NB101_134.1 _).trans (((cell_far (p := ⟨gb134, _, none⟩) NB101_134.1 _).trans (((cell_far (p := ⟨gb134, _, none⟩) NB101_134.1 _).trans (hHeld.2.1)))))), ((cell_far (p := ⟨gb134, _, none⟩) NB101_134.1 _).trans (((cell_far (p := ⟨gb134, _, none⟩) NB101_134.1 _).trans (((cell_far (p := ⟨gb134, _, none⟩) NB101_134.1 _).trans (hHeld.2.2))))))⟩ (fun hHeld => ?_)
              clear hK K
              refine pure_ (i := 10) (N := some 10) (v := ?_) (a' := ?_) #[true, true, true, true, true, true, true, true, true, true, true] rfl rfl (any_of HT_.1 (by kernel_rfl)) (fun _ _ _ h => h) (Or.inl ⟨by rfl, ?_⟩) ?_ ?_
              rotate_left
              ·intro w'
               go_simp
               with_reducible rfl
              rotate_left
              ·simp only [Act.put, sA, sB, sC, i64_w, i32_w]
               rfl
              refine done_ (done_of HT_.1 (by kernel_rfl)) ?_
              have hnb66 := NB122_134.1
              have hnc66 := NB134_122.1
              have hcz67_0 : w59.cell? ⟨gb122, 0, none⟩ = some (.int .i64 t114) := (bcz BK122.1 0).trans rfl
              have hcz67_1 : w59.cell? ⟨gb122, 1, none⟩ = some (.slice Ao50 t115.length co50) := (bcz BK122.1 1).trans rfl
              have hcz67_2 : w59.cell? ⟨gb122, 2, none⟩ = some (.slice Ao51 t118.length co51) := (bcz BK122.1 2).trans rfl
              have hfz67_0 := bf BK122.1 0
              have hfz67_1 := bf BK122.1 1
              have hfz67_2 := bf BK122.1 2
              have hnb68 := NB101_134.1
              have hnc68 := NB134_101.1
              have hcz69_0 : w59.cell? ⟨gb101, 0, none⟩ = some (.int .i64 a0_0) := (bcz BK101.1 0).trans rfl
              have hcz69_1 : w59.cell? ⟨gb101, 1, none⟩ = some (.slice A0_1 l0_1.length c0_1) := (bcz BK101.1 1).trans rfl
              have hcz69_2 : w59.cell? ⟨gb101, 2, none⟩ = some (.slice A0_2 l0_2.length c0_2) := (bcz BK101.1 2).trans rfl
              have hfz69_0 := bf BK101.1 0
              have hfz69_1 := bf BK101.1 1
              have hfz69_2 := bf BK101.1 2
              have hcz70_0 : w59.cell? ⟨gb134, 0, none⟩ = some (.int .i64 0) := (bcz BK134.1 0).trans rfl
              have hcz70_1 : w59.cell? ⟨gb134, 1, none⟩ = some (.slice none 0 0) := (bcz BK134.1 1).trans rfl
              have hcz70_2 : w59.cell? ⟨gb134, 2, none⟩ = some (.slice none 0 0) := (bcz BK134.1 2).trans rfl
              have hfz70_0 := bf BK134.1 0
              have hfz70_1 := bf BK134.1 1
              have hfz70_2 := bf BK134.1 2
              try go_wp2
              have n0_ : Q0z (Kd.R (Kd.int .i64) 3 (((w59.setCell ⟨gb134, 0, none⟩ (.int .i64 t126)).setCell ⟨gb134, 1, none⟩ (.slice Ao62 t127.length co62)).setCell ⟨gb134, 2, none⟩ (.slice Ao64 t130.length co64)) w.heap.size (fun _ => True) u5 x5_1) := ⟨by (with_reducible repeat (first | apply Kd.R_alloc | apply Kd.R_drewN | apply Kd.R_drew)); exact Kd.R_mono (Kd.R_far (p := ⟨gb134, 2, none⟩) (Kd.R_far (p := ⟨gb134, 1, none⟩) (Kd.R_far (p := ⟨gb134, 0, none⟩) (Kd.R_types HO_5.1 BK134.1 (by decide)) (fun _ hk => hk.2) (.int .i64 t126)) (fun _ hk => hk.2) (.slice Ao62 t127.length co62)) (fun _ hk => hk.2) (.slice Ao64 t130.length co64)) (fun _ hk => trivial)⟩
              have n1_ : Q0z (Kd.S (Kd.slice 82 k82) 79 (((w59.setCell ⟨gb134, 0, none⟩ (.int .i64 t126)).setCell ⟨gb134, 1, none⟩ (.slice Ao62 t127.length co62)).setCell ⟨gb134, 2, none⟩ (.slice Ao64 t130.length co64)) w.heap.size (fun k_ => some k_ ≠ (.slice Ao60 y123.length co60 : Value).ownBlock) (.slice Ao45 t110.length co45) t110) := ⟨by (with_reducible repeat (first | apply Kd.S_alloc | apply Kd.S_drewN | apply Kd.S_drew)); exact Kd.S_mono (Kd.S_far (p := ⟨gb134, 2, none⟩) (Kd.S_far (p := ⟨gb134, 1, none⟩) (Kd.S_far (p := ⟨gb134, 0, none⟩) (Kd.S_types HO112.1 BK134.1 (by decide)) (fun _ hk => hk.2) (.int .i64 t126)) (fun _ hk => hk.2) (.slice Ao62 t127.length co62)) (fun _ hk => hk.2) (.slice Ao64 t130.length co64)) (fun _ hk => hk.1)⟩
              have n2_ : Q0z (Kd.S (Kd.slice 3 (Kd.int .i64)) 45 (((w59.setCell ⟨gb134, 0, none⟩ (.int .i64 t126)).setCell ⟨gb134, 1, none⟩ (.slice Ao62 t127.length co62)).setCell ⟨gb134, 2, none⟩ (.slice Ao64 t130.length co64)) w.heap.size (fun k_ => some k_ ≠ (u5 : Value).ownBlock ∧ some k_ ≠ (.slice Ao62 t127.length co62 : Value).ownBlock) (.slice Ao50 t115.length co50) t115) := ⟨by (with_reducible repeat (first | apply Kd.S_alloc | apply Kd.S_drewN | apply Kd.S_drew)); exact Kd.S_mono (Kd.S_far (p := ⟨gb134, 2, none⟩) (Kd.S_far (p := ⟨gb134, 1, none⟩) (Kd.S_far (p := ⟨gb134, 0, none⟩) (Kd.S_types HO117.1 BK134.1 (by decide)) (fun _ hk => hk.2) (.int .i64 t126)) (fun _ hk => hk.2) (.slice Ao62 t127.length co62)) (fun _ hk => hk.2) (.slice Ao64 t130.length co64)) (fun _ hk => ⟨hk.1.2, hk.1.1⟩)⟩
              have n3_ : Q0z (Kd.R Kd.bool 4 (((w59.setCell ⟨gb134, 0, none⟩ (.int .i64 t126)).setCell ⟨gb134, 1, none⟩ (.slice Ao62 t127.length co62)).setCell ⟨gb134, 2, none⟩ (.slice Ao64 t130.length co64)) w.heap.size (fun k_ => some k_ ≠ (.slice Ao64 t130.length co64 : Value).ownBlock) (.slice Ao51 t118.length co51) t118) := ⟨by (with_reducible repeat (first | apply Kd.R_alloc | apply Kd.R_drewN | apply Kd.R_drew)); exact Kd.R_mono (Kd.R_far (p := ⟨gb134, 2, none⟩) (Kd.R_far (p := ⟨gb134, 1, none⟩) (Kd.R_far (p := ⟨gb134, 0, none⟩) (Kd.R_types HO120.1 BK134.1 (by decide)) (fun _ hk => hk.2) (.int .i64 t126)) (fun _ hk => hk.2) (.slice Ao62 t127.length co62)) (fun _ hk => hk.2) (.slice Ao64 t130.length co64)) (fun _ hk => hk.1)⟩
              have n4_ : Q0z (Kd.S (Kd.slice 82 k82) 79 (((w59.setCell ⟨gb134, 0, none⟩ (.int .i64 t126)).setCell ⟨gb134, 1, none⟩ (.slice Ao62 t127.length co62)).setCell ⟨gb134, 2, none⟩ (.slice Ao64 t130.length co64)) w.heap.size (fun k_ => some k_ ≠ (.slice Ao45 t110.length co45 : Value).ownBlock) (.slice Ao60 y123.length co60) y123) := ⟨by (with_reducible repeat (first | apply Kd.S_alloc | apply Kd.S_drewN | apply Kd.S_drew)); exact Kd.S_mono (Kd.S_far (p := ⟨gb134, 2, none⟩) (Kd.S_far (p := ⟨gb134, 1, none⟩) (Kd.S_far (p := ⟨gb134, 0, none⟩) (Kd.S_types HO125.1 BK134.1 (by decide)) (fun _ hk => hk.2) (.int .i64 t126)) (fun _ hk => hk.2) (.slice Ao62 t127.length co62)) (fun _ hk => hk.2) (.slice Ao64 t130.length co64)) (fun _ hk => hk.1)⟩
              have n5_ : Q0z (Kd.S (Kd.slice 3 (Kd.int .i64)) 45 (((w59.setCell ⟨gb134, 0, none⟩ (.int .i64 t126)).setCell ⟨gb134, 1, none⟩ (.slice Ao62 t127.length co62)).setCell ⟨gb134, 2, none⟩ (.slice Ao64 t130.length co64)) w.heap.size (fun k_ => some k_ ≠ (u5 : Value).ownBlock ∧ some k_ ≠ (.slice Ao50 t115.length co50 : Value).ownBlock) (.slice Ao62 t127.length co62) t127) := ⟨by (with_reducible repeat (first | apply Kd.S_alloc | apply Kd.S_drewN | apply Kd.S_drew)); exact Kd.S_mono (Kd.S_far (p := ⟨gb134, 2, none⟩) (Kd.S_far (p := ⟨gb134, 1, none⟩) (Kd.S_far (p := ⟨gb134, 0, none⟩) (Kd.S_types HO129.1 BK134.1 (by decide)) (fun _ hk => hk.2) (.int .i64 t126)) (fun _ hk => hk.2) (.slice Ao62 t127.length co62)) (fun _ hk => hk.2) (.slice Ao64 t130.length co64)) (fun _ hk => ⟨hk.1.2, hk.1.1⟩)⟩
              have n6_ : Q0z (Kd.R Kd.bool 4 (((w59.setCell ⟨gb134, 0, none⟩ (.int .i64 t126)).setCell ⟨gb134, 1, none⟩ (.slice Ao62 t127.length co62)).setCell ⟨gb134, 2, none⟩ (.slice Ao64 t130.length co64)) w.heap.size (fun k_ => some k_ ≠ (.slice Ao51 t118.length co51 : Value).ownBlock) (.slice Ao64 t130.length co64) t130) := ⟨by (with_reducible repeat (first | apply Kd.R_alloc | apply Kd.R_drewN | apply Kd.R_drew)); exact Kd.R_mono (Kd.R_far (p := ⟨gb134, 2, none⟩) (Kd.R_far (p := ⟨gb134, 1, none⟩) (Kd.R_far (p := ⟨gb134, 0, none⟩) (Kd.R_types HO132.1 BK134.1 (by decide)) (fun _ hk => hk.2) (.int .i64 t126)) (fun _ hk => hk.2) (.slice Ao62 t127.length co62)) (fun _ hk => hk.2) (.slice Ao64 t130.length co64)) (fun _ hk => hk.1)⟩
              have n7_ : Q0z ((((w59.setCell ⟨gb134, 0, none⟩ (.int .i64 t126)).setCell ⟨gb134, 1, none⟩ (.slice Ao62 t127.length co62)).setCell ⟨gb134, 2, none⟩ (.slice Ao64 t130.length co64)).heap[gb101]? = some (.cells #[.int .i64 a0_0, .slice A0_1 l0_1.length c0_1, .slice A0_2 l0_2.length c0_2] 25 (0, 0))) := ⟨by (with_reducible repeat (first | refine bN ?_ _ | refine bd ?_ | refine bA ?_ _)); refine bF ?_ NB101_134.1 _; (with_reducible repeat (first | refine bN ?_ _ | refine bd ?_ | refine bA ?_ _)); refine bF ?_ NB101_134.1 _; (with_reducible repeat (first | refine bN ?_ _ | refine bd ?_ | refine bA ?_ _)); refine bF ?_ NB101_134.1 _; (with_reducible repeat (first | refine bN ?_ _ | refine bd ?_ | refine bA ?_ _)); exact BK101.1⟩
              have n8_ : Q0z ((((w59.setCell ⟨gb134, 0, none⟩ (.int .i64 t126)).setCell ⟨gb134, 1, none⟩ (.slice Ao62 t127.length co62)).setCell ⟨gb134, 2, none⟩ (.slice Ao64 t130.length co64)).heap[gb122]? = some (.cells #[.int .i64 t114, .slice Ao50 t115.length co50, .slice Ao51 t118.length co51] 25 (0, 0))) := ⟨by (with_reducible repeat (first | refine bN ?_ _ | refine bd ?_ | refine bA ?_ _)); refine bF ?_ NB122_134.1 _; (with_reducible repeat (first | refine bN ?_ _ | refine bd ?_ | refine bA ?_ _)); refine bF ?_ NB122_134.1 _; (with_reducible repeat (first | refine bN ?_ _ | refine bd ?_ | refine bA ?_ _)); refine bF ?_ NB122_134.1 _; (with_reducible repeat (first | refine bN ?_ _ | refine bd ?_ | refine bA ?_ _)); exact BK122.1⟩
              have n9_ : Q0z ((((w59.setCell ⟨gb134, 0, none⟩ (.int .i64 t126)).setCell ⟨gb134, 1, none⟩ (.slice Ao62 t127.length co62)).setCell ⟨gb134, 2, none⟩ (.slice Ao64 t130.length co64)).heap[gb134]? = some (.cells #[.int .i64 t126, .slice Ao62 t127.length co62, .slice Ao64 t130.length co64] 25 (0, 0))) := ⟨by (with_reducible repeat (first | refine bN ?_ _ | refine bd ?_ | refine bA ?_ _)); refine bp (cs := #[.int .i64 t126, .slice Ao62 t127.length co62, .slice none 0 0]) ?_ 2 _ rfl; (with_reducible repeat (first | refine bN ?_ _ | refine bd ?_ | refine bA ?_ _)); refine bp (cs := #[.int .i64 t126, .slice none 0 0, .slice none 0 0]) ?_ 1 _ rfl; (with_reducible repeat (first | refine bN ?_ _ | refine bd ?_ | refine bA ?_ _)); refine bp (cs := #[.int .i64 0, .slice none 0 0, .slice none 0 0]) ?_ 0 _ rfl; (with_reducible repeat (first | refine bN ?_ _ | refine bd ?_ | refine bA ?_ _)); exact BK134.1⟩
              have n10_ : Q0z (Below w.heap.size w (((w59.setCell ⟨gb134, 0, none⟩ (.int .i64 t126)).setCell ⟨gb134, 1, none⟩ (.slice Ao62 t127.length co62)).setCell ⟨gb134, 2, none⟩ (.slice Ao64 t130.length co64))) := ⟨by repeat (first | (with_reducible first | exact HB.1 | apply ba | apply pN | apply bD | refine bS ?_ GE101.1 | refine bS ?_ GE122.1 | refine bS ?_ GE134.1) | exact HB.1)⟩
              (try clear HO_5)
              (try clear HO112)
              (try clear HO117)
              (try clear HO120)
              (try clear HO125)
              (try clear HO129)
              (try clear HO132)
              (try clear BK101)
              (try clear BK122)
              (try clear BK134)
              (try clear HB)
              generalize (((w59.setCell ⟨gb134, 0, none⟩ (.int .i64 t126)).setCell ⟨gb134, 1, none⟩ (.slice Ao62 t127.length co62)).setCell ⟨gb134, 2, none⟩ (.slice Ao64 t130.length co64)) = w71 at n0_ n1_ n2_ n3_ n4_ n5_ n6_ n7_ n8_ n9_ n10_ ⊢
              have HO_5 := n0_
              have HO112 := n1_
              have HO117 := n2_
              have HO120 := n3_
              have HO125 := n4_
              have HO129 := n5_
              have HO132 := n6_
              have BK101 := n7_
              have BK122 := n8_
              have BK134 := n9_
              have HB := n10_
              clear n0_ n1_ n2_ n3_ n4_ n5_ n6_ n7_ n8_ n9_ n10_
              have n0_ := Q0z.mk (Kd.R_drew HO_5.1)
              have n1_ := Q0z.mk (Kd.S_drew HO112.1)
              have n2_ := Q0z.mk (Kd.S_drew HO117.1)
              have n3_ := Q0z.mk (Kd.R_drew HO120.1)
              have n4_ := Q0z.mk (Kd.S_drew HO125.1)
              have n5_ := Q0z.mk (Kd.S_drew HO129.1)
              have n6_ := Q0z.mk (Kd.R_drew HO132.1)
              have n7_ := Q0z.mk (bd BK101.1)
              have n8_ := Q0z.mk (bd BK122.1)
              have n9_ := Q0z.mk (bd BK134.1)
              have n10_ := Q0z.mk (bD HB.1)
              clear HO_5
              clear HO112
              clear HO117
              clear HO120
              clear HO125
              clear HO129
              clear HO132
              clear BK101
              clear BK122
              clear BK134
              clear HB
              have HO_5 := n0_
              have HO112 := n1_
              have HO117 := n2_
              have HO120 := n3_
              have HO125 := n4_
              have HO129 := n5_
              have HO132 := n6_
              have BK101 := n7_
              have BK122 := n8_
              have BK134 := n9_
              have HB := n10_
              clear n0_ n1_ n2_ n3_ n4_ n5_ n6_ n7_ n8_ n9_ n10_
              obtain ⟨Ao73, co73, eo73⟩ := Kd.R_slice HO_5.1
              (first | subst eo73 | (injection eo73 with f1_ f2_ f3_; have f4_ := f1_.symm; have f5_ := f3_.symm; clear f1_ f2_ f3_; subst f4_; subst f5_))
              refine start_ (n := 17) (S := fun w' => w'.cell? ⟨gb122, 0, none⟩ = some (.int .i64 t114) ∧ w'.cell? ⟨gb122, 1, none⟩ = some (.slice Ao50 t115.length co50) ∧ w'.cell? ⟨gb122, 2, none⟩ = some (.slice Ao51 t118.length co51) ∧ w'.cell? ⟨gb101, 0, none⟩ = some (.int .i64 a0_0) ∧ w'.cell? ⟨gb101, 1, none⟩ = some (.slice A0_1 l0_1.length c0_1) ∧ w'.cell? ⟨gb101, 2, none⟩ = some (.slice A0_2 l0_2.length c0_2) ∧ w'.cell? ⟨gb134, 0, none⟩ = some (.int .i64 t126) ∧ w'.cell? ⟨gb134, 1, none⟩ = some (.slice Ao62 t127.length co62) ∧ w'.cell? ⟨gb134, 2, none⟩ = some (.slice Ao64 t130.length co64)) (ds := []) #[false, false, false, false, false, false, false, false, false, false, false, false, false, false, false, false, false] (by kernel_rfl) rfl rfl ⟨(bcz BK122.1 0).trans rfl, (bcz BK122.1 1).trans rfl, (bcz BK122.1 2).trans rfl, (bcz BK101.1 0).trans rfl, (bcz BK101.1 1).trans rfl, (bcz BK101.1 2).trans rfl, (bcz BK134.1 0).trans rfl, (bcz BK134.1 1).trans rfl, (bcz BK134.1 2).trans rfl⟩ (fun hHeld => ?_); refine with_tabW cl20_SubsetNets.tab12 cl20_SubsetNets.bits12 (fun HT_ HW_ => ?_)
              generalize w71.drew = w72 at HO_5 HO112 HO117 HO120 HO125 HO129 HO132 BK101 BK122 BK134 HB hHeld ⊢
              refine pure_ (i := 1) (N := some 81) (v := ?_) (a' := ?_) #[false, true, false, false, false, false, false, false, false, false, false, false, false, false, false, false, false] rfl rfl (any_of HT_.1 (by kernel_rfl)) (fun _ _ _ h => h) (Or.inl ⟨by rfl, ?_⟩) ?_ ?_
              rotate_left
              ·intro w'
               go_simp
               with_reducible rfl
              rotate_left
              ·simp only [Act.put, sA, sB, sC, i64_w, i32_w]
               rfl
              refine pure_ (i := 4) (N := some 84) (v := ?_) (a' := ?_) #[false, true, false, false, true, false, false, false, false, false, false, false, false, false, false, false, false] rfl rfl (any_of HT_.1 (by kernel_rfl)) (fun _ _ _ h => h) (Or.inl ⟨by rfl, ?_⟩) ?_ ?_
              rotate_left
              ·intro w'
               go_simp
               with_reducible rfl
              rotate_left
              ·simp only [Act.put, sA, sB, sC, i64_w, i32_w]
               rfl
              refine take_ (i := 0) (N := some 80) (v := ?_) (a' := ?_) #[true, true, false, false, true, false, false, false, false, false, false, false, false, false, false, false, false] rfl rfl (take_ofW HT_.1 HW_.1 (by kernel_rfl)) (fun _ _ _ h => h) (Or.inl ⟨by rfl, ?_⟩) hHeld ?_ ?_
              rotate_left
              ·rintro w' ⟨s0, s1, s2, s3, s4, s5, s6, s7, s8⟩
               go_simp
               with_reducible rfl
              rotate_left
              ·simp only [Act.put, sA, sB, sC, i64_w, i32_w]
               rfl
              refine take_ (i := 3) (N := some 83) (v := ?_) (a' := ?_) #[true, true, false, true, true, false, false, false, false, false, false, false, false, false, false, false, false] rfl rfl (take_ofW HT_.1 HW_.1 (by kernel_rfl)) (fun _ _ _ h => h) (Or.inl ⟨by rfl, ?_⟩) hHeld ?_ ?_
              rotate_left
              ·rintro w' ⟨s0, s1, s2, s3, s4, s5, s6, s7, s8⟩
               go_simp
               with_reducible rfl
              rotate_left
              ·simp only [Act.put, sA, sB, sC, i64_w, i32_w]
               rfl
              refine one_ (i := 2) (N := some 82) #[true, true, true, true, true, false, false, false, false, false, false, false, false, false, false, false, false] rfl rfl (one_of HT_.1 (by kernel_rfl)) (by decide) (fun K hK => ?_)
              refine goes_ Try.func56 (by kernel_rfl) rfl #[.agg #[.int .i64 t114, .slice Ao50 t115.length co50, .slice Ao51 t118.length co51], .slice Ao73 x5_1.length co73] (by rfl) rfl rfl (by (try simp only [List.map_toArray, List.map_cons, List.map_nil]); first | done | rfl | (simp only [List.length_drop, List.length_take]; rfl)) ?_
              with_reducible refine (subset_Takes.calls k1 t114 _ _ t115 _ _ t118 _ _ x5_1 t135 _ ?side1 ?side2 ?side3 ?side4 ?side5 ?side6 A37.1).mono ?_
              (case side1 => repeat (first | exact (Kd.S_reads' HO117.1).2.2 | (with_reducible refine Kd.C_alloc ?_ _) | (with_reducible refine Kd.C_drewN ?_ _) | (with_reducible refine Kd.C_drew ?_)))
              (case side2 => exact (Kd.S_reads' HO117.1).2.1)
              (case side3 => repeat (first | exact (Kd.R_reads' HO120.1).2.2 | (with_reducible refine Kd.C_alloc ?_ _) | (with_reducible refine Kd.C_drewN ?_ _) | (with_reducible refine Kd.C_drew ?_)))
              (case side4 => exact (Kd.R_reads' HO120.1).2.1)
              (case side5 => repeat (first | exact (Kd.R_reads' HO_5.1).2.2 | (with_reducible refine Kd.C_alloc ?_ _) | (with_reducible refine Kd.C_drewN ?_ _) | (with_reducible refine Kd.C_drew ?_)))
              (case side6 => exact (Kd.R_reads' HO_5.1).2.1)
              rintro e w74 ⟨rfl, hb⟩
              refine ⟨_, rfl, ?_⟩
              have n0_ := Q0z.mk (Kd.R_below (by (with_reducible repeat (first | apply Kd.R_alloc | apply Kd.R_drewN | apply Kd.R_drew)); exact HO_5.1) hb)
              have n1_ := Q0z.mk (Kd.S_below (by (with_reducible repeat (first | apply Kd.S_alloc | apply Kd.S_drewN | apply Kd.S_drew)); exact HO112.1) hb)
              have n2_ := Q0z.mk (Kd.S_below (by (with_reducible repeat (first | apply Kd.S_alloc | apply Kd.S_drewN | apply Kd.S_drew)); exact HO117.1) hb)
              have n3_ := Q0z.mk (Kd.R_below (by (with_reducible repeat (first | apply Kd.R_alloc | apply Kd.R_drewN | apply Kd.R_drew)); exact HO120.1) hb)
              have n4_ := Q0z.mk (Kd.S_below (by (with_reducible repeat (first | apply Kd.S_alloc | apply Kd.S_drewN | apply Kd.S_drew)); exact HO125.1) hb)
              have n5_ := Q0z.mk (Kd.S_below (by (with_reducible repeat (first | apply Kd.S_alloc | apply Kd.S_drewN | apply Kd.S_drew)); exact HO129.1) hb)
              have n6_ := Q0z.mk (Kd.R_below (by (with_reducible repeat (first | apply Kd.R_alloc | apply Kd.R_drewN | apply Kd.R_drew)); exact HO132.1) hb)
              have n7_ := Q0z.mk (bbz (g := gb101) (o := .cells #[.int .i64 a0_0, .slice A0_1 l0_1.length c0_1, .slice A0_2 l0_2.length c0_2] 25 (0, 0)) (by (with_reducible repeat (first | refine bN ?_ _ | refine bd ?_ | refine bA ?_ _)); exact BK101.1) hb)
              have n8_ := Q0z.mk (bbz (g := gb122) (o := .cells #[.int .i64 t114, .slice Ao50 t115.length co50, .slice Ao51 t118.length co51] 25 (0, 0)) (by (with_reducible repeat (first | refine bN ?_ _ | refine bd ?_ | refine bA ?_ _)); exact BK122.1) hb)
              have n9_ := Q0z.mk (bbz (g := gb134) (o := .cells #[.int .i64 t126, .slice Ao62 t127.length co62, .slice Ao64 t130.length co64] 25 (0, 0)) (by (with_reducible repeat (first | refine bN ?_ _ | refine bd ?_ | refine bA ?_ _)); exact BK134.1) hb)
              have n10_ := Q0z.mk (bsz (by repeat (first | (with_reducible first | exact HB.1 | apply ba | apply pN | apply bD | refine bS ?_ GE101.1 | refine bS ?_ GE122.1 | refine bS ?_ GE134.1) | exact HB.1)) hb)
              clear HO_5
              clear HO112
              clear HO117
              clear HO120
              clear HO125
              clear HO129
              clear HO132
              clear BK101
              clear BK122
              clear BK134
              clear HB
              have HO_5 := n0_
              have HO112 := n1_
              have HO117 := n2_
              have HO120 := n3_
              have HO125 := n4_
              have HO129 := n5_
              have HO132 := n6_
              have BK101 := n7_
              have BK122 := n8_
              have BK134 := n9_
              have HB := n10_
              clear n0_ n1_ n2_ n3_ n4_ n5_ n6_ n7_ n8_ n9_ n10_
              (try clear hb)
              (try clear hb2)
              (try clear hk)
              (try clear hi)
              refine hK.out _ _ ⟨(bcz BK122.1 0).trans rfl, (bcz BK122.1 1).trans rfl, (bcz BK122.1 2).trans rfl, (bcz BK101.1 0).trans rfl, (bcz BK101.1 1).trans rfl, (bcz BK101.1 2).trans rfl, (bcz BK134.1 0).trans rfl, (bcz BK134.1 1).trans rfl, (bcz BK134.1 2).trans rfl⟩ (fun hHeld => ?_)
              clear hK K
              refine norm_ (a' := ?_) ?_ ?_
              rotate_left
              ·show Act.put _ (some 82) _ = _
               simp only [Act.put, sA, sB, sC, i64_w, i32_w]
               rfl
              refine one_ (i := 5) (N := some 85) #[true, true, true, true, true, true, false, false, false, false, false, false, false, false, false, false, false] rfl rfl (one_of HT_.1 (by kernel_rfl)) (by decide) (fun K hK => ?_)
              refine goes_ Try.func56 (by kernel_rfl) rfl #[.agg #[.int .i64 a0_0, .slice A0_1 l0_1.length c0_1, .slice A0_2 l0_2.length c0_2], .slice Ao73 x5_1.length co73] (by rfl) rfl rfl (by (try simp only [List.map_toArray, List.map_cons, List.map_nil]); first | done | rfl | (simp only [List.length_drop, List.length_take]; rfl)) ?_
              with_reducible refine (subset_Takes.calls k1 a0_0 _ _ l0_1 _ _ l0_2 _ _ x5_1 t136 _ ?side1 ?side2 ?side3 ?side4 ?side5 ?side6 A38.1).mono ?_
              (case side1 => repeat (first | exact (Kd.C_below HR0_1.1 HB.1) | (with_reducible refine Kd.C_alloc ?_ _) | (with_reducible refine Kd.C_drewN ?_ _) | (with_reducible refine Kd.C_drew ?_)))
              (case side2 => exact HC0_1.1)
              (case side3 => repeat (first | exact (Kd.C_below HR0_2.1 HB.1) | (with_reducible refine Kd.C_alloc ?_ _) | (with_reducible refine Kd.C_drewN ?_ _) | (with_reducible refine Kd.C_drew ?_)))
              (case side4 => exact HC0_2.1)
              (case side5 => repeat (first | exact (Kd.R_reads' HO_5.1).2.2 | (with_reducible refine Kd.C_alloc ?_ _) | (with_reducible refine Kd.C_drewN ?_ _) | (with_reducible refine Kd.C_drew ?_)))
              (case side6 => exact (Kd.R_reads' HO_5.1).2.1)
              rintro e w75 ⟨rfl, hb⟩
              refine ⟨_, rfl, ?_⟩
              have n0_ := Q0z.mk (Kd.R_below (by (with_reducible repeat (first | apply Kd.R_alloc | apply Kd.R_drewN | apply Kd.R_drew)); exact HO_5.1) hb)
              have n1_ := Q0z.mk (Kd.S_below (by (with_reducible repeat (first | apply Kd.S_alloc | apply Kd.S_drewN | apply Kd.S_drew)); exact HO112.1) hb)
              have n2_ := Q0z.mk (Kd.S_below (by (with_reducible repeat (first | apply Kd.S_alloc | apply Kd.S_drewN | apply Kd.S_drew)); exact HO117.1) hb)
              have n3_ := Q0z.mk (Kd.R_below (by (with_reducible repeat (first | apply Kd.R_alloc | apply Kd.R_drewN | apply Kd.R_drew)); exact HO120.1) hb)
              have n4_ := Q0z.mk (Kd.S_below (by (with_reducible repeat (first | apply Kd.S_alloc | apply Kd.S_drewN | apply Kd.S_drew)); exact HO125.1) hb)
              have n5_ := Q0z.mk (Kd.S_below (by (with_reducible repeat (first | apply Kd.S_alloc | apply Kd.S_drewN | apply Kd.S_drew)); exact HO129.1) hb)
              have n6_ := Q0z.mk (Kd.R_below (by (with_reducible repeat (first | apply Kd.R_alloc | apply Kd.R_drewN | apply Kd.R_drew)); exact HO132.1) hb)
              have n7_ := Q0z.mk (bbz (g := gb101) (o := .cells #[.int .i64 a0_0, .slice A0_1 l0_1.length c0_1, .slice A0_2 l0_2.length c0_2] 25 (0, 0)) (by (with_reducible repeat (first | refine bN ?_ _ | refine bd ?_ | refine bA ?_ _)); exact BK101.1) hb)
              have n8_ := Q0z.mk (bbz (g := gb122) (o := .cells #[.int .i64 t114, .slice Ao50 t115.length co50, .slice Ao51 t118.length co51] 25 (0, 0)) (by (with_reducible repeat (first | refine bN ?_ _ | refine bd ?_ | refine bA ?_ _)); exact BK122.1) hb)
              have n9_ := Q0z.mk (bbz (g := gb134) (o := .cells #[.int .i64 t126, .slice Ao62 t127.length co62, .slice Ao64 t130.length co64] 25 (0, 0)) (by (with_reducible repeat (first | refine bN ?_ _ | refine bd ?_ | refine bA ?_ _)); exact BK134.1) hb)
              have n10_ := Q0z.mk (bsz (by repeat (first | (with_reducible first | exact HB.1 | apply ba | apply pN | apply bD | refine bS ?_ GE101.1 | refine bS ?_ GE122.1 | refine bS ?_ GE134.1) | exact HB.1)) hb)
              clear HO_5
              clear HO112
              clear HO117
              clear HO120
              clear HO125
              clear HO129
              clear HO132
              clear BK101
              clear BK122
              clear BK134
              clear HB
              have HO_5 := n0_
              have HO112 := n1_
              have HO117 := n2_
              have HO120 := n3_
              have HO125 := n4_
              have HO129 := n5_
              have HO132 := n6_
              have BK101 := n7_
              have BK122 := n8_
              have BK134 := n9_
              have HB := n10_
              clear n0_ n1_ n2_ n3_ n4_ n5_ n6_ n7_ n8_ n9_ n10_
              (try clear hb)
              (try clear hb2)
              (try clear hk)
              (try clear hi)
              refine hK.out _ _ ⟨(bcz BK122.1 0).trans rfl, (bcz BK122.1 1).trans rfl, (bcz BK122.1 2).trans rfl, (bcz BK101.1 0).trans rfl, (bcz BK101.1 1).trans rfl, (bcz BK101.1 2).trans rfl, (bcz BK134.1 0).trans rfl, (bcz BK134.1 1).trans rfl, (bcz BK134.1 2).trans rfl⟩ (fun hHeld => ?_)
              clear hK K
              refine norm_ (a' := ?_) ?_ ?_
              rotate_left
              ·show Act.put _ (some 85) _ = _
               simp only [Act.put, sA, sB, sC, i64_w, i32_w]
               rfl
              refine pure_ (i := 6) (N := some 86) (v := ?_) (a' := ?_) #[true, true, true, true, true, true, true, false, false, false, false, false, false, false, false, false, false] rfl rfl (any_of HT_.1 (by kernel_rfl)) (fun _ _ _ h => h) (Or.inl ⟨by rfl, ?_⟩) ?_ ?_
              rotate_left
              ·intro w'
               go_simp
               with_reducible rfl
              rotate_left
              ·simp only [Act.put, sA, sB, sC, i64_w, i32_w]
               rfl
              refine pure_ (i := 7) (N := some 87) (v := ?_) (a' := ?_) #[true, true, true, true, true, true, true, true, false, false, false, false, false, false, false, false, false] rfl rfl (any_of HT_.1 (by kernel_rfl)) (fun _ _ _ h => h) (Or.inl ⟨by rfl, ?_⟩) ?_ ?_
              rotate_left
              ·intro w'
               go_simp
               with_reducible rfl
              rotate_left
              ·simp only [Act.put, sA, sB, sC, i64_w, i32_w]
               rfl
              refine pure_ (i := 9) (N := some 89) (v := ?_) (a' := ?_) #[true, true, true, true, true, true, true, true, false, true, false, false, false, false, false, false, false] rfl rfl (any_of HT_.1 (by kernel_rfl)) (fun _ _ _ h => h) (Or.inl ⟨by rfl, ?_⟩) ?_ ?_
              rotate_left
              ·intro w'
               go_simp
               with_reducible rfl
              rotate_left
              ·simp only [Act.put, sA, sB, sC, i64_w, i32_w]
               rfl
              refine take_ (i := 8) (N := some 88) (v := ?_) (a' := ?_) #[true, true, true, true, true, true, true, true, true, true, false, false, false, false, false, false, false] rfl rfl (take_ofW HT_.1 HW_.1 (by kernel_rfl)) (fun _ _ _ h => h) (Or.inl ⟨by rfl, ?_⟩) hHeld ?_ ?_
              rotate_left
              ·rintro w' ⟨s0, s1, s2, s3, s4, s5, s6, s7, s8⟩
               go_simp
               with_reducible rfl
              rotate_left
              ·simp only [Act.put, sA, sB, sC, i64_w, i32_w]
               rfl
              refine one_ (i := 10) (N := some 90) #[true, true, true, true, true, true, true, true, true, true, true, false, false, false, false, false, false] rfl rfl (one_of HT_.1 (by kernel_rfl)) (by decide) (fun K hK => ?_)
              refine goes_ Try.func56 (by kernel_rfl) rfl #[.agg #[.int .i64 t126, .slice Ao62 t127.length co62, .slice Ao64 t130.length co64], .slice Ao73 x5_1.length co73] (by rfl) rfl rfl (by (try simp only [List.map_toArray, List.map_cons, List.map_nil]); first | done | rfl | (simp only [List.length_drop, List.length_take]; rfl)) ?_
              with_reducible refine (subset_Takes.calls k1 t126 _ _ t127 _ _ t130 _ _ x5_1 false _ ?side1 ?side2 ?side3 ?side4 ?side5 ?side6 A40.1).mono ?_
              (case side1 => repeat (first | exact (Kd.S_reads' HO129.1).2.2 | (with_reducible refine Kd.C_alloc ?_ _) | (with_reducible refine Kd.C_drewN ?_ _) | (with_reducible refine Kd.C_drew ?_)))
              (case side2 => exact (Kd.S_reads' HO129.1).2.1)
              (case side3 => repeat (first | exact (Kd.R_reads' HO132.1).2.2 | (with_reducible refine Kd.C_alloc ?_ _) | (with_reducible refine Kd.C_drewN ?_ _) | (with_reducible refine Kd.C_drew ?_)))
              (case side4 => exact (Kd.R_reads' HO132.1).2.1)
              (case side5 => repeat (first | exact (Kd.R_reads' HO_5.1).2.2 | (with_reducible refine Kd.C_alloc ?_ _) | (with_reducible refine Kd.C_drewN ?_ _) | (with_reducible refine Kd.C_drew ?_)))
              (case side6 => exact (Kd.R_reads' HO_5.1).2.1)
              rintro e w76 ⟨rfl, hb⟩
              refine ⟨_, rfl, ?_⟩
              have n0_ := Q0z.mk (Kd.R_below (by (with_reducible repeat (first | apply Kd.R_alloc | apply Kd.R_drewN | apply Kd.R_drew)); exact HO_5.1) hb)
              have n1_ := Q0z.mk (Kd.S_below (by (with_reducible repeat (first | apply Kd.S_alloc | apply Kd.S_drewN | apply Kd.S_drew)); exact HO112.1) hb)
              have n2_ := Q0z.mk (Kd.S_below (by (with_reducible repeat (first | apply Kd.S_alloc | apply Kd.S_drewN | apply Kd.S_drew)); exact HO117.1) hb)
              have n3_ := Q0z.mk (Kd.R_below (by (with_reducible repeat (first | apply Kd.R_alloc | apply Kd.R_drewN | apply Kd.R_drew)); exact HO120.1) hb)
              have n4_ := Q0z.mk (Kd.S_below (by (with_reducible repeat (first | apply Kd.S_alloc | apply Kd.S_drewN | apply Kd.S_drew)); exact HO125.1) hb)
              have n5_ := Q0z.mk (Kd.S_below (by (with_reducible repeat (first | apply Kd.S_alloc | apply Kd.S_drewN | apply Kd.S_drew)); exact HO129.1) hb)
              have n6_ := Q0z.mk (Kd.R_below (by (with_reducible repeat (first | apply Kd.R_alloc | apply Kd.R_drewN | apply Kd.R_drew)); exact HO132.1) hb)
              have n7_ := Q0z.mk (bbz (g := gb101) (o := .cells #[.int .i64 a0_0, .slice A0_1 l0_1.length c0_1, .slice A0_2 l0_2.length c0_2] 25 (0, 0)) (by (with_reducible repeat (first | refine bN ?_ _ | refine bd ?_ | refine bA ?_ _)); exact BK101.1) hb)
              have n8_ := Q0z.mk (bbz (g := gb122) (o := .cells #[.int .i64 t114, .slice Ao50 t115.length co50, .slice Ao51 t118.length co51] 25 (0, 0)) (by (with_reducible repeat (first | refine bN ?_ _ | refine bd ?_ | refine bA ?_ _)); exact BK122.1) hb)
              have n9_ := Q0z.mk (bbz (g := gb134) (o := .cells #[.int .i64 t126, .slice Ao62 t127.length co62, .slice Ao64 t130.length co64] 25 (0, 0)) (by (with_reducible repeat (first | refine bN ?_ _ | refine bd ?_ | refine bA ?_ _)); exact BK134.1) hb)
              have n10_ := Q0z.mk (bsz (by repeat (first | (with_reducible first | exact HB.1 | apply ba | apply pN | apply bD | refine bS ?_ GE101.1 | refine bS ?_ GE122.1 | refine bS ?_ GE134.1) | exact HB.1)) hb)
              clear HO_5
              clear HO112
              clear HO117
              clear HO120
              clear HO125
              clear HO129
              clear HO132
              clear BK101
              clear BK122
              clear BK134
              clear HB
              have HO_5 := n0_
              have HO112 := n1_
              have HO117 := n2_
              have HO120 := n3_
              have HO125 := n4_
              have HO129 := n5_
              have HO132 := n6_
              have BK101 := n7_
              have BK122 := n8_
              have BK134 := n9_
              have HB := n10_
              clear n0_ n1_ n2_ n3_ n4_ n5_ n6_ n7_ n8_ n9_ n10_
              (try clear hb)
              (try clear hb2)
              (try clear hk)
              (try clear hi)
              refine hK.out _ _ ⟨(bcz BK122.1 0).trans rfl, (bcz BK122.1 1).trans rfl, (bcz BK122.1 2).trans rfl, (bcz BK101.1 0).trans rfl, (bcz BK101.1 1).trans rfl, (bcz BK101.1 2).trans rfl, (bcz BK134.1 0).trans rfl, (bcz BK134.1 1).trans rfl, (bcz BK134.1 2).trans rfl⟩ (fun hHeld => ?_)
              clear hK K
              refine norm_ (a' := ?_) ?_ ?_
              rotate_left
              ·show Act.put _ (some 90) _ = _
               simp only [Act.put, sA, sB, sC, i64_w, i32_w]
               rfl
              refine pure_ (i := 11) (N := some 91) (v := ?_) (a' := ?_) #[true, true, true, true, true, true, true, true, true, true, true, true, false, false, false, false, false] rfl rfl (any_of HT_.1 (by kernel_rfl)) (fun _ _ _ h => h) (Or.inl ⟨by rfl, ?_⟩) ?_ ?_
              rotate_left
              ·intro w'
               go_simp
               with_reducible rfl
              rotate_left
              ·simp only [Act.put, sA, sB, sC, i64_w, i32_w]
               rfl
              refine pure_ (i := 12) (N := some 92) (v := ?_) (a' := ?_) #[true, true, true, true, true, true, true, true, true, true, true, true, true, false, false, false, false] rfl rfl (any_of HT_.1 (by kernel_rfl)) (fun _ _ _ h => h) (Or.inl ⟨by rfl, ?_⟩) ?_ ?_
              rotate_left
              ·intro w'
               go_simp
               with_reducible rfl
              rotate_left
              ·simp only [Act.put, sA, sB, sC, i64_w, i32_w]
               rfl
              refine pure_ (i := 13) (N := some 93) (v := ?_) (a' := ?_) #[true, true, true, true, true, true, true, true, true, true, true, true, true, true, false, false, false] rfl rfl (any_of HT_.1 (by kernel_rfl)) (fun _ _ _ h => h) (Or.inl ⟨by rfl, ?_⟩) ?_ ?_
              rotate_left
              ·intro w'
               go_simp
               with_reducible rfl
              rotate_left
              ·simp only [Act.put, sA, sB, sC, i64_w, i32_w]
               rfl
              refine one_ (i := 14) (N := some 94) #[true, true, true, true, true, true, true, true, true, true, true, true, true, true, true, false, false] rfl rfl (one_of HT_.1 (by kernel_rfl)) (by decide) (fun K hK => ?_)
              refine goes_ Try.func57 (by kernel_rfl) rfl #[] (by rfl) rfl rfl (by (try simp only [List.map_toArray, List.map_cons, List.map_nil]); first | done | rfl | (simp only [List.length_drop, List.length_take]; rfl)) ?_
              with_reducible refine (cl20_wakes.calls k1  t138 _ A42.1).mono ?_
              rintro e w77 ⟨rfl, hb⟩
              refine ⟨_, rfl, ?_⟩
              have n0_ := Q0z.mk (Kd.R_below (by (with_reducible repeat (first | apply Kd.R_alloc | apply Kd.R_drewN | apply Kd.R_drew)); exact HO_5.1) hb)
              have n1_ := Q0z.mk (Kd.S_below (by (with_reducible repeat (first | apply Kd.S_alloc | apply Kd.S_drewN | apply Kd.S_drew)); exact HO112.1) hb)
              have n2_ := Q0z.mk (Kd.S_below (by (with_reducible repeat (first | apply Kd.S_alloc | apply Kd.S_drewN | apply Kd.S_drew)); exact HO117.1) hb)
              have n3_ := Q0z.mk (Kd.R_below (by (with_reducible repeat (first | apply Kd.R_alloc | apply Kd.R_drewN | apply Kd.R_drew)); exact HO120.1) hb)
              have n4_ := Q0z.mk (Kd.S_below (by (with_reducible repeat (first | apply Kd.S_alloc | apply Kd.S_drewN | apply Kd.S_drew)); exact HO125.1) hb)
              have n5_ := Q0z.mk (Kd.S_below (by (with_reducible repeat (first | apply Kd.S_alloc | apply Kd.S_drewN | apply Kd.S_drew)); exact HO129.1) hb)
              have n6_ := Q0z.mk (Kd.R_below (by (with_reducible repeat (first | apply Kd.R_alloc | apply Kd.R_drewN | apply Kd.R_drew)); exact HO132.1) hb)
              have n7_ := Q0z.mk (bbz (g := gb101) (o := .cells #[.int .i64 a0_0, .slice A0_1 l0_1.length c0_1, .slice A0_2 l0_2.length c0_2] 25 (0, 0)) (by (with_reducible repeat (first | refine bN ?_ _ | refine bd ?_ | refine bA ?_ _)); exact BK101.1) hb)
              have n8_ := Q0z.mk (bbz (g := gb122) (o := .cells #[.int .i64 t114, .slice Ao50 t115.length co50, .slice Ao51 t118.length co51] 25 (0, 0)) (by (with_reducible repeat (first | refine bN ?_ _ | refine bd ?_ | refine bA ?_ _)); exact BK122.1) hb)
              have n9_ := Q0z.mk (bbz (g := gb134) (o := .cells #[.int .i64 t126, .slice Ao62 t127.length co62, .slice Ao64 t130.length co64] 25 (0, 0)) (by (with_reducible repeat (first | refine bN ?_ _ | refine bd ?_ | refine bA ?_ _)); exact BK134.1) hb)
              have n10_ := Q0z.mk (bsz (by repeat (first | (with_reducible first | exact HB.1 | apply ba | apply pN | apply bD | refine bS ?_ GE101.1 | refine bS ?_ GE122.1 | refine bS ?_ GE134.1) | exact HB.1)) hb)
              clear HO_5
              clear HO112
              clear HO117
              clear HO120
              clear HO125
              clear HO129
              clear HO132
              clear BK101
              clear BK122
              clear BK134
              clear HB
              have HO_5 := n0_
              have HO112 := n1_
              have HO117 := n2_
              have HO120 := n3_
              have HO125 := n4_
              have HO129 := n5_
              have HO132 := n6_
              have BK101 := n7_
              have BK122 := n8_
              have BK134 := n9_
              have HB := n10_
              clear n0_ n1_ n2_ n3_ n4_ n5_ n6_ n7_ n8_ n9_ n10_
              (try clear hb)
              (try clear hb2)
              (try clear hk)
              (try clear hi)
              refine hK.out _ _ ⟨(bcz BK122.1 0).trans rfl, (bcz BK122.1 1).trans rfl, (bcz BK122.1 2).trans rfl, (bcz BK101.1 0).trans rfl, (bcz BK101.1 1).trans rfl, (bcz BK101.1 2).trans rfl, (bcz BK134.1 0).trans rfl, (bcz BK134.1 1).trans rfl, (bcz BK134.1 2).trans rfl⟩ (fun hHeld => ?_)
              clear hK K
              refine norm_ (a' := ?_) ?_ ?_
              rotate_left
              ·show Act.put _ (some 94) _ = _
               simp only [Act.put, sA, sB, sC, i64_w, i32_w]
               rfl
              refine pure_ (i := 15) (N := some 95) (v := ?_) (a' := ?_) #[true, true, true, true, true, true, true, true, true, true, true, true, true, true, true, true, false] rfl rfl (any_of HT_.1 (by kernel_rfl)) (fun _ _ _ h => h) (Or.inl ⟨by rfl, ?_⟩) ?_ ?_
              rotate_left
              ·intro w'
               go_simp
               with_reducible rfl
              rotate_left
              ·simp only [Act.put, sA, sB, sC, i64_w, i32_w]
               rfl
              refine pure_ (i := 16) (N := some 4) (v := ?_) (a' := ?_) #[true, true, true, true, true, true, true, true, true, true, true, true, true, true, true, true, true] rfl rfl (any_of HT_.1 (by kernel_rfl)) (fun _ _ _ h => h) (Or.inl ⟨by rfl, ?_⟩) ?_ ?_
              rotate_left
              ·intro w'
               go_simp
               with_reducible rfl
              rotate_left
              ·simp only [Act.put, sA, sB, sC, i64_w, i32_w]
               rfl
              refine done_ (done_of HT_.1 (by kernel_rfl)) ?_
              try go_wp2
              go_ret
              exact ⟨by first | rfl | (simp [errW_none, errW_some] <;> rfl) | (simp [*, errW_none, errW_some] <;> rfl), by repeat (first | (with_reducible first | exact HB.1 | apply ba | apply pN | apply bD | refine bS ?_ GE101.1 | refine bS ?_ GE122.1 | refine bS ?_ GE134.1) | exact HB.1)⟩
            ·rw [if_neg c39] at H
             exact absurd H (by simp)
         ·rw [if_neg c34] at H
          exact absurd H (by simp)
        ·rw [if_neg c33] at H
         exact absurd H (by simp)
       ·rw [if_neg c31] at H
        exact absurd H (by simp)
 ·replace c4 := Bool.eq_false_iff.mpr c4
  subst c4
  have H1 : ((cl20_wakes.f k).bind fun t139 => (some t139)) = some r := by rw [if_neg (show ¬ (false = true) by decide)] at H; exact H
  clear H
  have H := H1
  clear H1
  replace H := Option.bind_eq_some_iff.mp H
  obtain ⟨t139, A780, H⟩ := H
  replace H : (some t139) = some r := H
  have A78 := Q0z.mk A780
  clear A780
  obtain rfl := Option.some.inj H
  have hf38_ := field38
  go_enter Try.func13, Try.ntmps13
  go_wp2_with (first | ((with_reducible refine gate_dst (N := 2) rfl ?_); (try (refine gate_guard (by rfl) ?_; dsimp only)); refine box_event ?hg (N := 2) ?hd (cs := #[.int .i64 a0_0, .slice A0_1 l0_1.length c0_1, .slice A0_2 l0_2.length c0_2]) (t := 25) ?hr ?_; (case hd => rfl); (case hg => rfl); (case hr => first | (go_simp; done) | (go_simp; rfl)); intro gb101 hg w79 hbox hb; have n0_ := Q0z.mk (bsz (by repeat (first | (with_reducible first | exact HB.1 | apply ba | apply pN | apply bD) | exact HB.1)) hb); have n1_ := Q0z.mk (hbox); have n2_ := Q0z.mk ((by rw [hg]; exact (below_size (by repeat (first | (with_reducible first | exact HB.1 | apply ba | apply pN | apply bD) | exact HB.1))) : w.heap.size ≤ gb101)); have n3_ := Q0z.mk ((by rw [hg]; exact (below_size (by repeat (first | (with_reducible first | exact HB.1 | apply ba | apply pN | apply bD) | exact HB.1))) : w.heap.size ≤ gb101)); clear HB; have HB := n0_; have BK101 := n1_; have GW101 := n2_; have GE101 := n3_; clear n0_ n1_ n2_ n3_; clear hb hbox hg; have hcz80_0 : w79.cell? ⟨gb101, 0, none⟩ = some (.int .i64 a0_0) := (bcz BK101.1 0).trans rfl; have hcz80_1 : w79.cell? ⟨gb101, 1, none⟩ = some (.slice A0_1 l0_1.length c0_1) := (bcz BK101.1 1).trans rfl; have hcz80_2 : w79.cell? ⟨gb101, 2, none⟩ = some (.slice A0_2 l0_2.length c0_2) := (bcz BK101.1 2).trans rfl; have hfz80_0 := bf BK101.1 0; have hfz80_1 := bf BK101.1 1; have hfz80_2 := bf BK101.1 2) | ((with_reducible refine gate_callee (f := 37) rfl ?_); refine goesL_ (some 12) rfl rfl Try.func37 (by kernel_rfl) rfl #[.agg #[.int .i64 a0_0, .slice A0_1 l0_1.length c0_1, .slice A0_2 l0_2.length c0_2]] rfl (by (try simp only [List.map_toArray, List.map_cons, List.map_nil]); first | done | rfl | (simp only [List.length_drop, List.length_take]; rfl)) ?_; (with_reducible refine (cr19_Good.calls k a0_0 _ _ l0_1 _ _ l0_2 false _ ?side1 ?side2 ?side3 ?side4 A3.1).mono ?_); (case side1 => repeat (first | exact (Kd.C_below HR0_1.1 HB.1) | (with_reducible refine Kd.C_alloc ?_ _) | (with_reducible refine Kd.C_drewN ?_ _) | (with_reducible refine Kd.C_drew ?_))); (case side2 => exact HC0_1.1); (case side3 => repeat (first | exact (Kd.C_below HR0_2.1 HB.1) | (with_reducible refine Kd.C_alloc ?_ _) | (with_reducible refine Kd.C_drewN ?_ _) | (with_reducible refine Kd.C_drew ?_))); (case side4 => exact HC0_2.1); rintro e w81 ⟨rfl, hb⟩; refine ⟨_, rfl, ?_⟩; have n0_ := Q0z.mk (bbz (g := gb101) (o := .cells #[.int .i64 a0_0, .slice A0_1 l0_1.length c0_1, .slice A0_2 l0_2.length c0_2] 25 (0, 0)) (by (with_reducible repeat (first | refine bN ?_ _ | refine bd ?_ | refine bA ?_ _)); exact BK101.1) hb); have n1_ := Q0z.mk (bsz (by repeat (first | (with_reducible first | exact HB.1 | apply ba | apply pN | apply bD | refine bS ?_ GE101.1) | exact HB.1)) hb); clear BK101; clear HB; have BK101 := n0_; have HB := n1_; clear n0_ n1_; (try clear hb); (try clear hb2); (try clear hk); (try clear hi)) | ((with_reducible refine gate_callee (f := 57) rfl ?_); refine goesL_ (some 25) rfl rfl Try.func57 (by kernel_rfl) rfl #[] rfl (by (try simp only [List.map_toArray, List.map_cons, List.map_nil]); first | done | rfl | (simp only [List.length_drop, List.length_take]; rfl)) ?_; (with_reducible refine (cl20_wakes.calls k  t139 _ A78.1).mono ?_); rintro e w82 ⟨rfl, hb⟩; refine ⟨_, rfl, ?_⟩; have n0_ := Q0z.mk (bbz (g := gb101) (o := .cells #[.int .i64 a0_0, .slice A0_1 l0_1.length c0_1, .slice A0_2 l0_2.length c0_2] 25 (0, 0)) (by (with_reducible repeat (first | refine bN ?_ _ | refine bd ?_ | refine bA ?_ _)); exact BK101.1) hb); have n1_ := Q0z.mk (bsz (by repeat (first | (with_reducible first | exact HB.1 | apply ba | apply pN | apply bD | refine bS ?_ GE101.1) | exact HB.1)) hb); clear BK101; clear HB; have BK101 := n0_; have HB := n1_; clear n0_ n1_; (try clear hb); (try clear hb2); (try clear hk); (try clear hi)))
  go_ret
  exact ⟨by first | rfl | (simp [errW_none, errW_some] <;> rfl) | (simp [*, errW_none, errW_some] <;> rfl), by repeat (first | (with_reducible first | exact HB.1 | apply ba | apply pN | apply bD | refine bS ?_ GE101.1) | exact HB.1)⟩

end Go.Proofs.Ytelkjbacdpmnfaa.A
