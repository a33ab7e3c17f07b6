/- Contracts. -/
import Derived.Test.YtelkjbacdpmnfaaB0
import Derived.Test.YtelkjbacdpmnfaaBCaesurakeepLargeLists
namespace Go.Proofs.Ytelkjbacdpmnfaa.A
open Go.RowKit Go.W_.PrintWords Go.W_.PrintLast Go.W_.PrintMore
attribute [local go_sem] max2_int min2_int max_two min_two max_three min_three max_four min_four
set_option linter.unusedVariables false
set_option linter.unusedSimpArgs false

def cl21_Light.f (k : Nat) (a0_0 : Int) (l0_1 : List (List Int)) (l0_2 : List Bool) : Option (Bool) := (ck_LargeLists.f k l0_1 1500).bind fun t102 => (if t102 = true then (some false) else (if (l0_2.length : Int) ≤ 300 then (some (decide ((l0_1.length : Int) ≤ 60))) else (some false)))
theorem cl21_Light.mono : ∀ a0 a1 a2 k, LeO (cl21_Light.f k a0 a1 a2) (cl21_Light.f (k + 1) a0 a1 a2) := by
 intro a0 a1 a2 k
 unfold cl21_Light.f
 repeat' first
   | (with_reducible exact ck_LargeLists.mono _ _ _)
   | (with_reducible exact LeO.refl _)
   | (with_reducible exact LeO.none _)
   | (with_reducible refine LeO.ite ?_ ?_)
   | (with_reducible refine LeO.bind ?_ (fun _ => ?_))
   | exact ck_LargeLists.mono _ _ _
   | exact LeO.none _
   | refine LeO.ite ?_ ?_
   | refine LeO.bind ?_ (fun _ => ?_)
set_option maxHeartbeats 8000000 in
set_option maxRecDepth 100000 in
theorem cl21_Light.calls (k : Nat) (a0_0 : Int) (A0_1 : Option Addr) (c0_1 : Nat) (l0_1 : List (List Int)) (A0_2 : Option Addr) (c0_2 : Nat) (l0_2 : List Bool) (r : Bool) (w : World) (hr0_1 : Kd.C (Kd.slice 3 (Kd.int .i64)) w A0_1 l0_1.length l0_1) (hc0_1 : l0_1.length ≤ c0_1) (hr0_2 : Kd.C Kd.bool w A0_2 l0_2.length l0_2) (hc0_2 : l0_2.length ≤ c0_2) (h : cl21_Light.f k a0_0 l0_1 l0_2 = some r) :
  Calls Try.prog 46 #[.agg #[.int .i64 a0_0, .slice A0_1 l0_1.length c0_1, .slice A0_2 l0_2.length c0_2]] w fun e w' => e = .returned (.bool r) ∧ Below w.heap.size w w' := by
 have hu25 := Try.underlying25
 have HR0_1 := Q0.mk hr0_1
 have HC0_1 := Q0.mk hc0_1
 clear hr0_1 hc0_1
 have HR0_2 := Q0.mk hr0_2
 have HC0_2 := Q0.mk hc0_2
 clear hr0_2 hc0_2
 have HB := Q0.mk (Below.refl w.heap.size w)
 have H : ((ck_LargeLists.f k l0_1 1500).bind fun t102 => (if t102 = true then (some false) else (if (l0_2.length : Int) ≤ 300 then (some (decide ((l0_1.length : Int) ≤ 60))) else (some false)))) = some r := h
 clear h
 replace H := Option.bind_eq_some_iff.mp H
 obtain ⟨t102, A20, H⟩ := H
 replace H : (if t102 = true then (some false) else (if (l0_2.length : Int) ≤ 300 then (some (decide ((l0_1.length : Int) ≤ 60))) else (some false))) = some r := H
 have A2 := Q0.mk A20
 clear A20
 by_cases c3 : t102 = true
 ·subst c3
  have H1 : (some false) = some r := by rw [if_pos rfl] at H; exact H
  clear H
  have H := H1
  clear H1
  obtain rfl := Option.some.inj H
  go_enter Try.func46, Try.ntmps46
  go_wp2_with (first | ((with_reducible refine gate_dst (N := 1) rfl ?_); (try (refine gate_guard (by rfl) ?_; dsimp only)); refine box_event ?hg (N := 1) ?hd (cs := #[.int .i64 a0_0, .slice A0_1 l0_1.length c0_1, .slice A0_2 l0_2.length c0_2]) (t := 25) ?hr ?_; (case hd => rfl); (case hg => rfl); (case hr => first | (go_simp; done) | (go_simp; rfl)); intro gb101 hg w4 hbox hb; have n0_ := Q0.mk (bsz (by repeat (first | (with_reducible first | exact HB.1 | apply ba | apply pN | apply bD) | exact HB.1)) hb); have n1_ := Q0.mk (hbox); have n2_ := Q0.mk ((by rw [hg]; exact (below_size (by repeat (first | (with_reducible first | exact HB.1 | apply ba | apply pN | apply bD) | exact HB.1))) : w.heap.size ≤ gb101)); have n3_ := Q0.mk ((by rw [hg]; exact (below_size (by repeat (first | (with_reducible first | exact HB.1 | apply ba | apply pN | apply bD) | exact HB.1))) : w.heap.size ≤ gb101)); clear HB; have HB := n0_; have BK101 := n1_; have GW101 := n2_; have GE101 := n3_; clear n0_ n1_ n2_ n3_; clear hb hbox hg; have hcz5_0 : w4.cell? ⟨gb101, 0, none⟩ = some (.int .i64 a0_0) := (bc BK101.1 0).trans rfl; have hcz5_1 : w4.cell? ⟨gb101, 1, none⟩ = some (.slice A0_1 l0_1.length c0_1) := (bc BK101.1 1).trans rfl; have hcz5_2 : w4.cell? ⟨gb101, 2, none⟩ = some (.slice A0_2 l0_2.length c0_2) := (bc BK101.1 2).trans rfl; have hfz5_0 := bf BK101.1 0; have hfz5_1 := bf BK101.1 1; have hfz5_2 := bf BK101.1 2) | ((with_reducible refine gate_callee (f := 79) rfl ?_); refine goesL_ (some 5) rfl rfl Try.func79 (by kernel_rfl) rfl #[.slice A0_1 l0_1.length c0_1, .int .i64 1500] rfl (by (try simp only [List.map_toArray, List.map_cons, List.map_nil]); first | done | rfl | (simp only [List.length_drop, List.length_take]; rfl)) ?_; (with_reducible refine (ck_LargeLists.calls k _ _ l0_1 1500 true _ ?side1 ?side2 A2.1).mono ?_); (case side1 => repeat (first | exact (Kd.C_below HR0_1.1 HB.1) | (with_reducible refine Kd.C_alloc ?_ _) | (with_reducible refine Kd.C_drewN ?_ _) | (with_reducible refine Kd.C_drew ?_))); (case side2 => exact HC0_1.1); rintro e w6 ⟨rfl, hb⟩; refine ⟨_, rfl, ?_⟩; have n0_ := Q0.mk (bb (g := gb101) (o := .cells #[.int .i64 a0_0, .slice A0_1 l0_1.length c0_1, .slice A0_2 l0_2.length c0_2] 25 (0, 0)) (by (with_reducible repeat (first | refine bN ?_ _ | refine bdz ?_ | refine bA ?_ _)); exact BK101.1) hb); have n1_ := Q0.mk (bsz (by repeat (first | (with_reducible first | exact HB.1 | apply ba | apply pN | apply bD | refine bS ?_ GE101.1) | exact HB.1)) hb); clear BK101; clear HB; have BK101 := n0_; have HB := n1_; clear n0_ n1_; (try clear hb); (try clear hb2); (try clear hk); (try clear hi)))
  go_ret
  exact ⟨by first | rfl | (simp [errW_none, errW_some] <;> rfl) | (simp [*, errW_none, errW_some] <;> rfl), by repeat (first | (with_reducible first | exact HB.1 | apply ba | apply pN | apply bD | refine bS ?_ GE101.1) | exact HB.1)⟩
 ·replace c3 := Bool.eq_false_iff.mpr c3
  subst c3
  have H1 : (if (l0_2.length : Int) ≤ 300 then (some (decide ((l0_1.length : Int) ≤ 60))) else (some false)) = some r := by rw [if_neg (show ¬ (false = true) by decide)] at H; exact H
  clear H
  have H := H1
  clear H1
  by_cases c7 : (l0_2.length : Int) ≤ 300
  ·rw [if_pos c7] at H
   have c7b0 : decide ((l0_2.length : Int) ≤ 300) = true := decide_eq_true c7
   have c7b1 : decide (l0_2.length ≤ 300) = true := decide_eq_true (by omega)
   clear c7
   obtain rfl := Option.some.inj H
   go_enter Try.func46, Try.ntmps46
   go_wp2_with (first | ((with_reducible refine gate_dst (N := 1) rfl ?_); (try (refine gate_guard (by rfl) ?_; dsimp only)); refine box_event ?hg (N := 1) ?hd (cs := #[.int .i64 a0_0, .slice A0_1 l0_1.length c0_1, .slice A0_2 l0_2.length c0_2]) (t := 25) ?hr ?_; (case hd => rfl); (case hg => rfl); (case hr => first | (go_simp; done) | (go_simp; rfl)); intro gb101 hg w8 hbox hb; have n0_ := Q0.mk (bsz (by repeat (first | (with_reducible first | exact HB.1 | apply ba | apply pN | apply bD) | exact HB.1)) hb); have n1_ := Q0.mk (hbox); have n2_ := Q0.mk ((by rw [hg]; exact (below_size (by repeat (first | (with_reducible first | exact HB.1 | apply ba | apply pN | apply bD) | exact HB.1))) : w.heap.size ≤ gb101)); have n3_ := Q0.mk ((by rw [hg]; exact (below_size (by repeat (first | (with_reducible first | exact HB.1 | apply ba | apply pN | apply bD) | exact HB.1))) : w.heap.size ≤ gb101)); clear HB; have HB := n0_; have BK101 := n1_; have GW101 := n2_; have GE101 := n3_; clear n0_ n1_ n2_ n3_; clear hb hbox hg; have hcz9_0 : w8.cell? ⟨gb101, 0, none⟩ = some (.int .i64 a0_0) := (bc BK101.1 0).trans rfl; have hcz9_1 : w8.cell? ⟨gb101, 1, none⟩ = some (.slice A0_1 l0_1.length c0_1) := (bc BK101.1 1).trans rfl; have hcz9_2 : w8.cell? ⟨gb101, 2, none⟩ = some (.slice A0_2 l0_2.length c0_2) := (bc BK101.1 2).trans rfl; have hfz9_0 := bf BK101.1 0; have hfz9_1 := bf BK101.1 1; have hfz9_2 := bf BK101.1 2) | ((with_reducible refine gate_callee (f := 79) rfl ?_); refine goesL_ (some 5) rfl rfl Try.func79 (by kernel_rfl) rfl #[.slice A0_1 l0_1.length c0_1, .int .i64 1500] rfl (by (try simp only [List.map_toArray, List.map_cons, List.map_nil]); first | done | rfl | (simp only [List.length_drop, List.length_take]; rfl)) ?_; (with_reducible refine (ck_LargeLists.calls k _ _ l0_1 1500 false _ ?side1 ?side2 A2.1).mono ?_); (case side1 => repeat (first | exact (Kd.C_below HR0_1.1 HB.1) | (with_reducible refine Kd.C_alloc ?_ _) | (with_reducible refine Kd.C_drewN ?_ _) | (with_reducible refine Kd.C_drew ?_))); (case side2 => exact HC0_1.1); rintro e w10 ⟨rfl, hb⟩; refine ⟨_, rfl, ?_⟩; have n0_ := Q0.mk (bb (g := gb101) (o := .cells #[.int .i64 a0_0, .slice A0_1 l0_1.length c0_1, .slice A0_2 l0_2.length c0_2] 25 (0, 0)) (by (with_reducible repeat (first | refine bN ?_ _ | refine bdz ?_ | refine bA ?_ _)); exact BK101.1) hb); have n1_ := Q0.mk (bsz (by repeat (first | (with_reducible first | exact HB.1 | apply ba | apply pN | apply bD | refine bS ?_ GE101.1) | exact HB.1)) hb); clear BK101; clear HB; have BK101 := n0_; have HB := n1_; clear n0_ n1_; (try clear hb); (try clear hb2); (try clear hk); (try clear hi); have hcz11_0 : w10.cell? ⟨gb101, 0, none⟩ = some (.int .i64 a0_0) := (bc BK101.1 0).trans rfl; have hcz11_1 : w10.cell? ⟨gb101, 1, none⟩ = some (.slice A0_1 l0_1.length c0_1) := (bc BK101.1 1).trans rfl; have hcz11_2 : w10.cell? ⟨gb101, 2, none⟩ = some (.slice A0_2 l0_2.length c0_2) := (bc BK101.1 2).trans rfl; have hfz11_0 := bf BK101.1 0; have hfz11_1 := bf BK101.1 1; have hfz11_2 := bf BK101.1 2))
   go_ret
   exact ⟨by first | rfl | (simp [errW_none, errW_some] <;> rfl) | (simp [*, errW_none, errW_some] <;> rfl), by repeat (first | (with_reducible first | exact HB.1 | apply ba | apply pN | apply bD | refine bS ?_ GE101.1) | exact HB.1)⟩
  ·rw [if_neg c7] at H
   have c7b0 : decide ((l0_2.length : Int) ≤ 300) = false := decide_eq_false c7
   have c7b1 : decide (l0_2.length ≤ 300) = false := decide_eq_false (by omega)
   clear c7
   obtain rfl := Option.some.inj H
   go_enter Try.func46, Try.ntmps46
   go_wp2_with (first | ((with_reducible refine gate_dst (N := 1) rfl ?_); (try (refine gate_guard (by rfl) ?_; dsimp only)); refine box_event ?hg (N := 1) ?hd (cs := #[.int .i64 a0_0, .slice A0_1 l0_1.length c0_1, .slice A0_2 l0_2.length c0_2]) (t := 25) ?hr ?_; (case hd => rfl); (case hg => rfl); (case hr => first | (go_simp; done) | (go_simp; rfl)); intro gb101 hg w12 hbox hb; have n0_ := Q0.mk (bsz (by repeat (first | (with_reducible first | exact HB.1 | apply ba | apply pN | apply bD) | exact HB.1)) hb); have n1_ := Q0.mk (hbox); have n2_ := Q0.mk ((by rw [hg]; exact (below_size (by repeat (first | (with_reducible first | exact HB.1 | apply ba | apply pN | apply bD) | exact HB.1))) : w.heap.size ≤ gb101)); have n3_ := Q0.mk ((by rw [hg]; exact (below_size (by repeat (first | (with_reducible first | exact HB.1 | apply ba | apply pN | apply bD) | exact HB.1))) : w.heap.size ≤ gb101)); clear HB; have HB := n0_; have BK101 := n1_; have GW101 := n2_; have GE101 := n3_; clear n0_ n1_ n2_ n3_; clear hb hbox hg; have hcz13_0 : w12.cell? ⟨gb101, 0, none⟩ = some (.int .i64 a0_0) := (bc BK101.1 0).trans rfl; have hcz13_1 : w12.cell? ⟨gb101, 1, none⟩ = some (.slice A0_1 l0_1.length c0_1) := (bc BK101.1 1).trans rfl; have hcz13_2 : w12.cell? ⟨gb101, 2, none⟩ = some (.slice A0_2 l0_2.length c0_2) := (bc BK101.1 2).trans rfl; have hfz13_0 := bf BK101.1 0; have hfz13_1 := bf BK101.1 1; have hfz13_2 := bf BK101.1 2) | ((with_reducible refine gate_callee (f := 79) rfl ?_); refine goesL_ (some 5) rfl rfl Try.func79 (by kernel_rfl) rfl #[.slice A0_1 l0_1.length c0_1, .int .i64 1500] rfl (by (try simp only [List.map_toArray, List.map_cons, List.map_nil]); first | done | rfl | (simp only [List.length_drop, List.length_take]; rfl)) ?_; (with_reducible refine (ck_LargeLists.calls k _ _ l0_1 1500 false _ ?side1 ?side2 A2.1).mono ?_); (case side1 => repeat (first | exact (Kd.C_below HR0_1.1 HB.1) | (with_reducible refine Kd.C_alloc ?_ _) | (with_reducible refine Kd.C_drewN ?_ _) | (with_reducible refine Kd.C_drew ?_))); (case side2 => exact HC0_1.1); rintro e w14 ⟨rfl, hb⟩; refine ⟨_, rfl, ?_⟩; have n0_ := Q0.mk (bb (g := gb101) (o := .cells #[.int .i64 a0_0, .slice A0_1 l0_1.length c0_1, .slice A0_2 l0_2.length c0_2] 25 (0, 0)) (by (with_reducible repeat (first | refine bN ?_ _ | refine bdz ?_ | refine bA ?_ _)); exact BK101.1) hb); have n1_ := Q0.mk (bsz (by repeat (first | (with_reducible first | exact HB.1 | apply ba | apply pN | apply bD | refine bS ?_ GE101.1) | exact HB.1)) hb); clear BK101; clear HB; have BK101 := n0_; have HB := n1_; clear n0_ n1_; (try clear hb); (try clear hb2); (try clear hk); (try clear hi); have hcz15_0 : w14.cell? ⟨gb101, 0, none⟩ = some (.int .i64 a0_0) := (bc BK101.1 0).trans rfl; have hcz15_1 : w14.cell? ⟨gb101, 1, none⟩ = some (.slice A0_1 l0_1.length c0_1) := (bc BK101.1 1).trans rfl; have hcz15_2 : w14.cell? ⟨gb101, 2, none⟩ = some (.slice A0_2 l0_2.length c0_2) := (bc BK101.1 2).trans rfl; have hfz15_0 := bf BK101.1 0; have hfz15_1 := bf BK101.1 1; have hfz15_2 := bf BK101.1 2))
   go_ret
   exact ⟨by first | rfl | (simp [errW_none, errW_some] <;> rfl) | (simp [*, errW_none, errW_some] <;> rfl), by repeat (first | (with_reducible first | exact HB.1 | apply ba | apply pN | apply bD | refine bS ?_ GE101.1) | exact HB.1)⟩

end Go.Proofs.Ytelkjbacdpmnfaa.A
